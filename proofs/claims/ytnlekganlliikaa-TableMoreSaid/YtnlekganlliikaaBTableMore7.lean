/-
  Parts of one proof, one behind the other: XKn4, XTabMath, XTabRows, XTabTells, XTabCols, XTabMore.
-/
import Derived.Test.YtnlekganlliikaaBTableMore6
-- part XKn4
namespace Go.Proofs.Ytnlekganlliikaa.X
open Go.RowKit Go.Proofs.YtnlekganlliikaaW.PrintWords Go.Proofs.YtnlekganlliikaaW.PrintLast Go.Proofs.YtnlekganlliikaaW.PrintMore
attribute [local go_sem] max2_int min2_int max_two min_two max_three min_three max_four min_four   -- for this text's walks alone
set_option linter.unusedVariables false
set_option linter.unusedSimpArgs false
attribute [local go_sem high] eqA37
mutual
def sennitlaw20_TableMore.j0 : Nat → List ByteArray → List (List ByteArray) → Bool → Bool → Option (Bool)
  | 0, _, _, _, _ => none
  | k + 1, x0, x1, x5, x23 => if x23 = true then (some x5) else (if 0 ≤ (wrap64 ((x1.length : Int) - 1)) then (if (wrap64 ((x1.length : Int) - 1)) ≤ (x1.length : Int) then ((table_Table.f x0 (x1.take ((wrap64 ((x1.length : Int) - 1)) : Int).toNat)).bind fun bt213 => ((table_Table.f x0 x1).bind fun bt217 => (sennitlaw20_TableMore.l0 k x5 (wrap64 ((x1.length : Int) - 1)) bt213.1 bt217.1 0 0))) else (none)) else (none))
def sennitlaw20_TableMore.l0 : Nat → Bool → Int → List (S37) → List (S37) → Int → Int → Option (Bool)
  | 0, _, _, _, _, _, _ => none
  | k + 1, x5, x6, x7, x9, x11, x12 => if x12 < (x9.length : Int) then (if 0 ≤ x12 then (if (((rd_T37 x9 x12).f0).size : Int) = (wrap64 (x6 + 1)) then (if 0 ≤ x6 then (if x6 ≤ (((rd_T37 x9 x12).f0).size : Int) then ((table_Lost.f ((rd_T37 x9 x12).f0) ((rd_T37 x9 x12).f1)).bind fun t226 => (if t226 = true then ((table_Lost.f (((rd_T37 x9 x12).f0).extract 0 (x6 : Int).toNat) ((rd_T37 x9 x12).f1)).bind fun t227 => (sennitlaw20_TableMore.j2 k x5 x6 x7 x9 x11 x12 (!t227) (((rd_T37 x9 x12).f0).extract 0 (x6 : Int).toNat) ((rd_T37 x9 x12).f1))) else (sennitlaw20_TableMore.j2 k x5 x6 x7 x9 x11 x12 false (((rd_T37 x9 x12).f0).extract 0 (x6 : Int).toNat) ((rd_T37 x9 x12).f1)))) else (none)) else (none)) else (some false)) else (none)) else (if x5 = true then (some (x11 == (x7.length : Int))) else (some false))
def sennitlaw20_TableMore.j2 : Nat → Bool → Int → List (S37) → List (S37) → Int → Int → Bool → ByteArray → ByteArray → Option (Bool)
  | 0, _, _, _, _, _, _, _, _, _ => none
  | k + 1, x5, x6, x7, x9, x11, x12, x79, x225000, x225001 => if x79 = true then (sennitlaw20_TableMore.l0 k x5 x6 x7 x9 x11 (wrap64 (x12 + 1))) else (if x11 ≥ (x7.length : Int) then (some false) else (if 0 ≤ x11 then (if x11 < (x7.length : Int) then (if (!((((rd_T37 x7 x11).f0).toList) == x225000.toList) || (!((((rd_T37 x7 x11).f1).toList) == x225001.toList))) = true then (some false) else (sennitlaw20_TableMore.l0 k x5 x6 x7 x9 (wrap64 (x11 + 1)) (wrap64 (x12 + 1)))) else (none)) else (none)))
end
def sennitlaw20_TableMore.f (k : Nat) (l0 : List ByteArray) (l1 : List (List ByteArray)) : Option (Bool) := (sennitlaw20_awake.f).bind fun t207 => ((sennitref20_May.f k l0 l1).bind fun t208 => (if t208 = true then (sennitlaw20_TableMore.j0 k l0 l1 t207 (decide ((l1.length : Int) < 2))) else (sennitlaw20_TableMore.j0 k l0 l1 t207 true)))
def sennitlaw20_TableMore.T13 : Bool × List (List Nat × List Nat) := (true, [([], []), ([], []), ([0, 1], [0, 1]), ([2], [2]), ([3], [3]), ([], []), ([4, 5], [4, 5]), ([], []), ([], []), ([7, 8], [7, 8]), ([9], [9]), ([10], [10]), ([6, 11], [6, 11]), ([], []), ([13, 12, 0, 1, 2, 3, 4, 5, 6, 7, 8, 9, 10, 11, 12, 13], [12, 13])])
def sennitlaw20_TableMore.B13 : List Nat := [0, 0, 3, 7, 15, 0, 63, 0, 0, 384, 896, 1920, 4095, 0, 16383]
theorem sennitlaw20_TableMore.tab13 : rtab .any (opsOf Try.f14 13) = sennitlaw20_TableMore.T13 := by kernel_rfl
theorem sennitlaw20_TableMore.bits13 : waitsOk sennitlaw20_TableMore.T13.2 sennitlaw20_TableMore.B13 = true := by kernel_rfl
def sennitlaw20_TableMore.T15 : Bool × List (List Nat × List Nat) := (true, [([], []), ([], []), ([1], [1]), ([0, 2], [0, 2]), ([3], [3]), ([4], [4]), ([4], [4]), ([5, 6, 4], [4, 5, 6]), ([7, 4], [4, 7]), ([4], [4]), ([8, 9, 4], [4, 8, 9]), ([4, 10], [4, 10])])
def sennitlaw20_TableMore.B15 : List Nat := [0, 0, 2, 7, 15, 31, 31, 127, 255, 31, 1023, 2047]
theorem sennitlaw20_TableMore.tab15 : rtab .any (opsOf Try.f14 15) = sennitlaw20_TableMore.T15 := by kernel_rfl
theorem sennitlaw20_TableMore.bits15 : waitsOk sennitlaw20_TableMore.T15.2 sennitlaw20_TableMore.B15 = true := by kernel_rfl
set_option maxHeartbeats 8000000 in
set_option maxRecDepth 100000 in
theorem sennitlaw20_TableMore.calls (k : Nat) (A0 : Option Addr) (c0 : Nat) (l0 : List ByteArray) (A1 : Option Addr) (c1 : Nat) (l1 : List (List ByteArray)) (r : Bool) (w : World) (hr0 : Kd.C Kd.string w A0 l0.length l0) (hc0 : l0.length ≤ c0) (hr1 : Kd.C (Kd.slice 9 Kd.string) w A1 l1.length l1) (hc1 : l1.length ≤ c1) (h : sennitlaw20_TableMore.f k l0 l1 = some r) :
    Calls Try.prog 14 #[.slice A0 l0.length c0, .slice A1 l1.length c1] w fun e w' => e = .returned (.bool r) ∧ Below w.heap.size w w' := by
  have hu37 := Try.underlying37
  have HR0 := Aside0.mk hr0
  have HC0 := Aside0.mk hc0
  clear hr0 hc0
  have HR1 := Aside0.mk hr1
  have HC1 := Aside0.mk hc1
  clear hr1 hc1
  have HB := Aside0.mk (Below.refl w.heap.size w)
  have H : ((sennitlaw20_awake.f).bind fun t207 => ((sennitref20_May.f k l0 l1).bind fun t208 => (if t208 = true then (sennitlaw20_TableMore.j0 k l0 l1 t207 (decide ((l1.length : Int) < 2))) else (sennitlaw20_TableMore.j0 k l0 l1 t207 true)))) = some r := h
  clear h
  replace H := Option.bind_eq_some_iff.mp H
  obtain ⟨t207, A30, H⟩ := H
  replace H : ((sennitref20_May.f k l0 l1).bind fun t208 => (if t208 = true then (sennitlaw20_TableMore.j0 k l0 l1 t207 (decide ((l1.length : Int) < 2))) else (sennitlaw20_TableMore.j0 k l0 l1 t207 true))) = some r := H
  have A3 := Aside0.mk A30
  clear A30
  have HC4 := Aside0.mk H
  clear H
  go_enter Try.func14, Try.ntmps14
  go_upto_region 2 with (first | ((with_reducible refine gate_callee (f := 23) rfl ?_); refine goesL_ (some 14) rfl rfl Try.func23 (by kernel_rfl) rfl #[] rfl (by (try simp only [List.map_toArray, List.map_cons, List.map_nil]); first | done | rfl | (simp only [List.length_drop, List.length_take]; rfl)) ?_; (with_reducible refine (sennitlaw20_awake.calls  t207 _ A3.out).mono ?_); rintro e w5 ⟨rfl, hb⟩; refine ⟨_, rfl, ?_⟩; have n0_ := Aside0.mk (below_step (by repeat (first | (with_reducible first | exact HB.out | apply below_alloc | apply pw_below_drewN | apply below_drew1) | exact HB.out)) hb); clear HB; have HB := n0_; clear n0_; (try clear hb); (try clear hb2); (try clear hk); (try clear hi)))
  (try simp only [Act.put, List.setIfInBounds_toArray, List.set_cons_zero, List.set_cons_succ])
  go_cut [23] (fun v23 wc => ∃ (kq : Nat) (x23_3 : Bool), v23 = .bool x23_3 ∧ Aside0 (sennitlaw20_TableMore.j0 kq l0 l1 t207 x23_3 = some r) ∧ Aside0 (kq ≤ k) ∧ Aside0 (Below w.heap.size w wc))
  case first =>
    have H := HC4.out
    clear HC4
    replace H := Option.bind_eq_some_iff.mp H
    obtain ⟨t208, A60, H⟩ := H
    replace H : (if t208 = true then (sennitlaw20_TableMore.j0 k l0 l1 t207 (decide ((l1.length : Int) < 2))) else (sennitlaw20_TableMore.j0 k l0 l1 t207 true)) = some r := H
    have A6 := Aside0.mk A60
    clear A60
    by_cases c7 : t208 = true
    · subst c7
      have H1 : (sennitlaw20_TableMore.j0 k l0 l1 t207 (decide ((l1.length : Int) < 2))) = some r := by rw [if_pos rfl] at H; exact H
      clear H
      have H := H1
      clear H1
      have H' := Aside0.mk H
      clear H
      go_wp2_with (first | ((with_reducible refine gate_callee (f := 27) rfl ?_); refine goesL_ (some 17) rfl rfl Try.func27 (by kernel_rfl) rfl #[.slice A0 l0.length c0, .slice A1 l1.length c1] rfl (by (try simp only [List.map_toArray, List.map_cons, List.map_nil]); first | done | rfl | (simp only [List.length_drop, List.length_take]; rfl)) ?_; (with_reducible refine (sennitref20_May.calls k _ _ l0 _ _ l1 true _ ?side1 ?side2 ?side3 ?side4 A6.out).mono ?_); (case side1 => repeat (first | exact (Kd.C_below HR0.out HB.out) | (with_reducible refine Kd.C_alloc ?_ _) | (with_reducible refine Kd.C_drewN ?_ _) | (with_reducible refine Kd.C_drew ?_))); (case side2 => exact HC0.out); (case side3 => repeat (first | exact (Kd.C_below HR1.out HB.out) | (with_reducible refine Kd.C_alloc ?_ _) | (with_reducible refine Kd.C_drewN ?_ _) | (with_reducible refine Kd.C_drew ?_))); (case side4 => exact HC1.out); rintro e w' ⟨rfl, ⟨nd, rfl⟩⟩; refine ⟨_, rfl, ?_⟩))
      go_meet
      case rel => exact ⟨_, (decide ((l1.length : Int) < 2)), (by first | rfl | (simp; done) | (simp [*]; done)), H', ⟨by first | omega | exact Nat.le_refl _⟩, ⟨by repeat (first | (with_reducible first | exact HB.out | apply below_alloc | apply pw_below_drewN | apply below_drew1) | exact HB.out)⟩⟩
    · replace c7 := Bool.eq_false_iff.mpr c7
      subst c7
      have H1 : (sennitlaw20_TableMore.j0 k l0 l1 t207 true) = some r := by rw [if_neg (show ¬ (false = true) by decide)] at H; exact H
      clear H
      have H := H1
      clear H1
      have H' := Aside0.mk H
      clear H
      go_wp2_with (first | ((with_reducible refine gate_callee (f := 27) rfl ?_); refine goesL_ (some 17) rfl rfl Try.func27 (by kernel_rfl) rfl #[.slice A0 l0.length c0, .slice A1 l1.length c1] rfl (by (try simp only [List.map_toArray, List.map_cons, List.map_nil]); first | done | rfl | (simp only [List.length_drop, List.length_take]; rfl)) ?_; (with_reducible refine (sennitref20_May.calls k _ _ l0 _ _ l1 false _ ?side1 ?side2 ?side3 ?side4 A6.out).mono ?_); (case side1 => repeat (first | exact (Kd.C_below HR0.out HB.out) | (with_reducible refine Kd.C_alloc ?_ _) | (with_reducible refine Kd.C_drewN ?_ _) | (with_reducible refine Kd.C_drew ?_))); (case side2 => exact HC0.out); (case side3 => repeat (first | exact (Kd.C_below HR1.out HB.out) | (with_reducible refine Kd.C_alloc ?_ _) | (with_reducible refine Kd.C_drewN ?_ _) | (with_reducible refine Kd.C_drew ?_))); (case side4 => exact HC1.out); rintro e w' ⟨rfl, ⟨nd, rfl⟩⟩; refine ⟨_, rfl, ?_⟩))
      go_meet
      case rel => exact ⟨_, (true), (by first | rfl | (simp; done) | (simp [*]; done)), H', ⟨by first | omega | exact Nat.le_refl _⟩, ⟨by repeat (first | (with_reducible first | exact HB.out | apply below_alloc | apply pw_below_drewN | apply below_drew1) | exact HB.out)⟩⟩
  case rest =>
    clear HC4
    try clear c1
    try clear c2
    try clear p2
    try clear c7
    obtain ⟨kq, x23_3, rfl, HA, HJ3, HB⟩ := hcut
    cases kq with
    | zero => exact absurd HA.out (by simp [sennitlaw20_TableMore.j0])
    | succ kj3 =>
      have H := HA.out
      clear HA
      simp only [sennitlaw20_TableMore.j0] at H
      by_cases c8 : x23_3 = true
      · subst c8
        have H1 : (some t207) = some r := by rw [if_pos rfl] at H; exact H
        clear H
        have H := H1
        clear H1
        obtain rfl := Option.some.inj H
        go_wp2
        go_ret
        exact ⟨by first | rfl | (simp [errW_none, errW_some] <;> rfl) | (simp [*, errW_none, errW_some] <;> rfl), by repeat (first | (with_reducible first | exact HB.out | apply below_alloc | apply pw_below_drewN | apply below_drew1) | exact HB.out)⟩
      · replace c8 := Bool.eq_false_iff.mpr c8
        subst c8
        have H1 : (if 0 ≤ (wrap64 ((l1.length : Int) - 1)) then (if (wrap64 ((l1.length : Int) - 1)) ≤ (l1.length : Int) then ((table_Table.f l0 (l1.take ((wrap64 ((l1.length : Int) - 1)) : Int).toNat)).bind fun bt213 => ((table_Table.f l0 l1).bind fun bt217 => (sennitlaw20_TableMore.l0 kj3 t207 (wrap64 ((l1.length : Int) - 1)) bt213.1 bt217.1 0 0))) else (none)) else (none)) = some r := by rw [if_neg (show ¬ (false = true) by decide)] at H; exact H
        clear H
        have H := H1
        clear H1
        obtain ⟨ji9, hji9⟩ : ∃ j_ : Int, (wrap64 ((l1.length : Int) - 1)) = j_ := ⟨_, rfl⟩
        replace H : (if 0 ≤ (ji9) then (if (ji9) ≤ (l1.length : Int) then ((table_Table.f l0 (l1.take ((ji9) : Int).toNat)).bind fun bt213 => ((table_Table.f l0 l1).bind fun bt217 => (sennitlaw20_TableMore.l0 kj3 t207 ji9 bt213.1 bt217.1 0 0))) else (none)) else (none)) = some r := by first | (rw [hji9] at H; exact H) | (simp only [hji9] at H ⊢; exact H)
        have hji9w : (IntKind.i64.wrap ((l1.length : Int) - 1)) = ji9 := (i64_w _).trans hji9
        by_cases c10 : 0 ≤ (ji9)
        · rw [if_pos c10] at H
          have c10b0 := eq_true c10
          have c10b1 : decide (0 ≤ (ji9)) = true := decide_eq_true c10
          clear c10
          by_cases c11 : (ji9) ≤ (l1.length : Int)
          · rw [if_pos c11] at H
            have c11b0 := eq_true c11
            have c11b1 : decide ((ji9) ≤ (l1.length : Int)) = true := decide_eq_true c11
            clear c11
            obtain ⟨y209, hy209⟩ : ∃ y_ : List (List ByteArray), y_ = (l1.take ((ji9) : Int).toNat) := ⟨_, rfl⟩
            replace H : ((table_Table.f l0 y209).bind fun bt213 => ((table_Table.f l0 l1).bind fun bt217 => (sennitlaw20_TableMore.l0 kj3 t207 ji9 bt213.1 bt217.1 0 0))) = some r := by first | (rw [hy209]; with_reducible exact H) | (have H2_ := (Option.bind_some _ _).symm.trans H; rw [hy209]; with_reducible exact H2_) | (have H2_ := (Option.bind_some _ _).symm.trans H; with_reducible exact H2_) | with_reducible exact H | (rw [hy209]; exact H) | exact H
            have Ny209 := Aside0.mk hy209
            clear hy209
            replace H := Option.bind_eq_some_iff.mp H
            obtain ⟨⟨t213, t214⟩, A120, H⟩ := H
            replace H : ((table_Table.f l0 l1).bind fun bt217 => (sennitlaw20_TableMore.l0 kj3 t207 ji9 t213 bt217.1 0 0)) = some r := H
            have A12 := Aside0.mk A120
            clear A120
            replace H := Option.bind_eq_some_iff.mp H
            obtain ⟨⟨t217, t218⟩, A130, H⟩ := H
            replace H : (sennitlaw20_TableMore.l0 kj3 t207 ji9 t213 t217 0 0) = some r := H
            have A13 := Aside0.mk A130
            clear A130
            have H' := Aside0.mk H
            clear H
            have q14 : ((ji9) : Int) ≤ ((l1.length : Int) : Int) := of_decide_eq_true (by first | (with_reducible assumption) | assumption)
            obtain ⟨i014, hi014, _, hsz14, _⟩ := info_parts info34
            have hroom14 : l1.length ≤ c1 := HC1.out
            have hC14 : Kd.C (Kd.slice 9 Kd.string) _ A1 l1.length l1 := HR1.out
            have hcut14 := cut_to (P := Try.prog) 22 34 .i64 Try.underlying22 hi014 A1 l1.length c1 (ji9) (of_decide_eq_true (by first | (with_reducible assumption) | assumption)) q14 hroom14
            have hr14 := Kd.C_take (m := ((ji9) : Int).toNat) hC14 (by omega)
            have hy14 : y209.length = ((ji9) : Int).toNat := (by rw [Ny209.out, List.length_take]; omega)
            rw [← Ny209.out] at hr14
            rw [← hy14] at hcut14
            have HR212 := Aside0.mk hr14
            have HC212 := Aside0.mk (show y209.length ≤ c1 from by omega)
            clear hr14 hC14 hroom14 hi014 hsz14
            have KY14 := Aside0.mk hy14
            clear hy14
            replace q14 := eq_true q14
            go_wp2_with (first | ((with_reducible refine gate_callee (f := 25) rfl ?_); refine goesL_ (some 33) rfl rfl Try.func25 (by kernel_rfl) rfl #[.slice A0 l0.length c0, .slice A1 y209.length c1] rfl (by (try simp only [List.map_toArray, List.map_cons, List.map_nil]); first | done | rfl | (simp only [List.length_drop, List.length_take]; rfl)) ?_; (with_reducible refine (table_Table.calls _ _ l0 _ _ y209 t213 t214 _ ?side1 ?side2 ?side3 ?side4 A12.out).mono ?_); (case side1 => repeat (first | exact (Kd.C_below HR0.out HB.out) | (with_reducible refine Kd.C_alloc ?_ _) | (with_reducible refine Kd.C_drewN ?_ _) | (with_reducible refine Kd.C_drew ?_))); (case side2 => exact HC0.out); (case side3 => repeat (first | exact (Kd.C_below HR212.out HB.out) | (with_reducible refine Kd.C_alloc ?_ _) | (with_reducible refine Kd.C_drewN ?_ _) | (with_reducible refine Kd.C_drew ?_))); (case side4 => exact HC212.out); rintro e w15 ⟨v215, rfl, ho0, hb⟩; refine ⟨_, rfl, ?_⟩; have n0_ := Aside0.mk (Kd.R_lower ho0 (below_size (by repeat (first | (with_reducible first | exact HB.out | apply below_alloc | apply pw_below_drewN | apply below_drew1) | exact HB.out)))); have n1_ := Aside0.mk (below_step (by repeat (first | (with_reducible first | exact HB.out | apply below_alloc | apply pw_below_drewN | apply below_drew1) | exact HB.out)) hb); clear HB; have HO216 := n0_; have HB := n1_; clear n0_ n1_; (try clear hb); (try clear hb2); (try clear hk); (try clear hi); (try clear ho0)) | ((with_reducible refine gate_callee (f := 25) rfl ?_); refine goesL_ (some 39) rfl rfl Try.func25 (by kernel_rfl) rfl #[.slice A0 l0.length c0, .slice A1 l1.length c1] rfl (by (try simp only [List.map_toArray, List.map_cons, List.map_nil]); first | done | rfl | (simp only [List.length_drop, List.length_take]; rfl)) ?_; (with_reducible refine (table_Table.calls _ _ l0 _ _ l1 t217 t218 _ ?side1 ?side2 ?side3 ?side4 A13.out).mono ?_); (case side1 => repeat (first | exact (Kd.C_below HR0.out HB.out) | (with_reducible refine Kd.C_alloc ?_ _) | (with_reducible refine Kd.C_drewN ?_ _) | (with_reducible refine Kd.C_drew ?_))); (case side2 => exact HC0.out); (case side3 => repeat (first | exact (Kd.C_below HR1.out HB.out) | (with_reducible refine Kd.C_alloc ?_ _) | (with_reducible refine Kd.C_drewN ?_ _) | (with_reducible refine Kd.C_drew ?_))); (case side4 => exact HC1.out); rintro e w16 ⟨v219, rfl, ho0, hb⟩; refine ⟨_, rfl, ?_⟩; have n0_ := Aside0.mk (Kd.R_elder' (by (with_reducible repeat (first | apply Kd.R_alloc | apply Kd.R_drewN | apply Kd.R_drew)); exact HO216.out) (Kd.R_base ho0) hb); have n1_ := Aside0.mk (Kd.R_lower (Kd.R_new' ho0 (Kd.R_lt (by (with_reducible repeat (first | apply Kd.R_alloc | apply Kd.R_drewN | apply Kd.R_drew)); exact HO216.out))) (below_size (by repeat (first | (with_reducible first | exact HB.out | apply below_alloc | apply pw_below_drewN | apply below_drew1) | exact HB.out)))); have n2_ := Aside0.mk (below_step (by repeat (first | (with_reducible first | exact HB.out | apply below_alloc | apply pw_below_drewN | apply below_drew1) | exact HB.out)) hb); clear HO216; clear HB; have HO216 := n0_; have HO220 := n1_; have HB := n2_; clear n0_ n1_ n2_; (try clear hb); (try clear hb2); (try clear hk); (try clear hi); (try clear ho0)))
            go_loopg [11, 12] kj3 (fun kq v11 v12 w' => ∃ (x11_2 : Int) (x12_2 : Int), v11 = .int .i64 x11_2 ∧ v12 = .int .i64 x12_2 ∧ Aside0 (sennitlaw20_TableMore.l0 kq t207 ji9 t213 t217 x11_2 x12_2 = some r) ∧ Aside0 (kq ≤ kj3) ∧ Aside0 (Kd.R k37 37 w' w.heap.size (fun k_ => some k_ ≠ (v219 : Value).ownBlock) v215 t213) ∧ Aside0 (Kd.R k37 37 w' w.heap.size (fun k_ => some k_ ≠ (v215 : Value).ownBlock) v219 t217) ∧ Aside0 (Below w.heap.size w w'))
            case atStart => exact ⟨(0), (0), (by first | rfl | (simp; done) | (simp [*]; done)), (by first | rfl | (simp; done) | (simp [*]; done)), H', ⟨Nat.le_refl _⟩, ⟨by (with_reducible repeat (first | apply Kd.R_alloc | apply Kd.R_drewN | apply Kd.R_drew)); exact Kd.R_mono HO216.out (fun _ hk => hk.2)⟩, ⟨by (with_reducible repeat (first | apply Kd.R_alloc | apply Kd.R_drewN | apply Kd.R_drew)); exact Kd.R_mono HO220.out (fun _ hk => hk.2)⟩, ⟨by repeat (first | (with_reducible first | exact HB.out | apply below_alloc | apply pw_below_drewN | apply below_drew1) | exact HB.out)⟩⟩
            case round =>
              clear H'
              try clear c1
              try clear q1
              try clear c2
              try clear p2
              try clear p6
              try clear c7
              try clear c8
              try clear c10
              try clear c10b0
              try clear c10b1
              try clear c11
              try clear c11b0
              try clear c11b1
              try clear c14
              try clear q14
              try clear p2
              try clear q14
              obtain ⟨x11_2, x12_2, rfl, rfl, HA, HK2, HO_7, HO_9, HB⟩ := hrel
              cases gk with
              | zero => exact absurd HA.out (by simp [sennitlaw20_TableMore.l0])
              | succ k2 =>
                have H := HA.out
                clear HA
                simp only [sennitlaw20_TableMore.l0] at H
                by_cases c17 : x12_2 < (t217.length : Int)
                · rw [if_pos c17] at H
                  have c17b0 : decide (x12_2 < (t217.length : Int)) = true := decide_eq_true c17
                  clear c17
                  by_cases c18 : 0 ≤ x12_2
                  · rw [if_pos c18] at H
                    have c18b0 : decide (0 ≤ x12_2) = true := decide_eq_true c18
                    clear c18
                    by_cases c19 : (((rd_T37 t217 x12_2).f0).size : Int) = (wrap64 (ji9 + 1))
                    · rw [if_pos c19] at H
                      have c19b0 : ((((rd_T37 t217 x12_2).f0).size : Int) == (wrap64 (ji9 + 1))) = true := beq_iff_eq.mpr c19
                      have c19b1 : ((((rd_T37 t217 x12_2).f0).size : Int) != (wrap64 (ji9 + 1))) = false := bne_eq_false_iff_eq.mpr c19
                      clear c19
                      by_cases c20 : 0 ≤ ji9
                      · rw [if_pos c20] at H
                        have c20b0 := eq_true c20
                        have c20b1 : decide (0 ≤ ji9) = true := decide_eq_true c20
                        clear c20
                        by_cases c21 : ji9 ≤ (((rd_T37 t217 x12_2).f0).size : Int)
                        · rw [if_pos c21] at H
                          have c21b0 := eq_true c21
                          have c21b1 : decide (ji9 ≤ (((rd_T37 t217 x12_2).f0).size : Int)) = true := decide_eq_true c21
                          clear c21
                          have HC22 := Aside0.mk H
                          clear H
                          obtain ⟨Ao23, co23, eo23⟩ := Kd.R_slice HO_9.out
                          subst eo23
                          have p221 : 0 ≤ (x12_2 : Int) := of_decide_eq_true (by first | (with_reducible assumption) | assumption)
                          have q221 : x12_2 < (t217.length : Int) := of_decide_eq_true (by first | (with_reducible assumption) | assumption)
                          obtain ⟨ad221, e221, hx221_0, hx221_1⟩ := at_T37 (Kd.R_reads' HO_9.out).2.2 x12_2 p221 q221
                          cases e221
                          replace p221 := eq_true p221
                          replace q221 := eq_true q221
                          try go_wp2
                          have n0_ := Aside0.mk (Kd.R_drew HO_7.out)
                          have n1_ := Aside0.mk (Kd.R_drew HO_9.out)
                          have n2_ := Aside0.mk (below_drew1 HB.out)
                          clear HO_7
                          clear HO_9
                          clear HB
                          have HO_7 := n0_
                          have HO_9 := n1_
                          have HB := n2_
                          clear n0_ n1_ n2_
                          have p222 : 0 ≤ (x12_2 : Int) := of_decide_eq_true (by first | (with_reducible assumption) | assumption)
                          have q222 : x12_2 < (t217.length : Int) := of_decide_eq_true (by first | (with_reducible assumption) | assumption)
                          obtain ⟨ad222, e222, hx222_0, hx222_1⟩ := at_T37 (Kd.R_reads' HO_9.out).2.2 x12_2 p222 q222
                          obtain rfl : ad221 = ad222 := (by injection e222)
                          replace p222 := eq_true p222
                          replace q222 := eq_true q222
                          have p223 : 0 ≤ (x12_2 : Int) := of_decide_eq_true (by first | (with_reducible assumption) | assumption)
                          have q223 : x12_2 < (t217.length : Int) := of_decide_eq_true (by first | (with_reducible assumption) | assumption)
                          obtain ⟨ad223, e223, hx223_0, hx223_1⟩ := at_T37 (Kd.R_reads' HO_9.out).2.2 x12_2 p223 q223
                          obtain rfl : ad221 = ad223 := (by injection e223)
                          replace p223 := eq_true p223
                          replace q223 := eq_true q223
                          refine start_ (n := 15) (S := fun w' => w'.cell? (ad221.add ((x12_2).toNat * 2)) = some (.string ((rd_T37 t217 x12_2).f0)) ∧ w'.cell? ⟨(ad221.add ((x12_2).toNat * 2)).block, (ad221.add ((x12_2).toNat * 2)).off + 1, none⟩ = some (.string ((rd_T37 t217 x12_2).f1)) ∧ w'.cell? (ad221.add ((x12_2).toNat * 2)) = some (.string ((rd_T37 t217 x12_2).f0)) ∧ w'.cell? ⟨(ad221.add ((x12_2).toNat * 2)).block, (ad221.add ((x12_2).toNat * 2)).off + 1, none⟩ = some (.string ((rd_T37 t217 x12_2).f1))) (ds := []) #[false, false, false, false, false, false, false, false, false, false, false, false, false, false, false] (by kernel_rfl) rfl rfl ⟨hx222_0, hx222_1, hx223_0, hx223_1⟩ (fun hHeld => ?_); refine with_tabW sennitlaw20_TableMore.tab13 sennitlaw20_TableMore.bits13 (fun HT_ HW_ => ?_)
                          generalize wr.drew = w24 at HO_7 HO_9 HB hx222_0 hx222_1 hx223_0 hx223_1 hHeld ⊢
                          refine pure_ (i := 0) (N := some 57) (v := ?_) (a' := ?_) #[true, false, false, false, false, false, false, false, false, false, false, false, false, false, false] rfl rfl (any_of HT_.out (by kernel_rfl)) (fun _ _ _ h => h) (Or.inl ⟨by rfl, ?_⟩) ?_ ?_
                          rotate_left
                          · intro w'
                            go_simp
                            with_reducible rfl
                          rotate_left
                          · simp only [Act.put, List.setIfInBounds_toArray, List.set_cons_zero, List.set_cons_succ, i64_w, i32_w]
                            rfl
                          refine pure_ (i := 1) (N := some 58) (v := ?_) (a' := ?_) #[true, true, false, false, false, false, false, false, false, false, false, false, false, false, false] rfl rfl (any_of HT_.out (by kernel_rfl)) (fun _ _ _ h => h) (Or.inl ⟨by rfl, ?_⟩) ?_ ?_
                          rotate_left
                          · intro w'
                            go_simp
                            with_reducible rfl
                          rotate_left
                          · simp only [Act.put, List.setIfInBounds_toArray, List.set_cons_zero, List.set_cons_succ, i64_w, i32_w]
                            rfl
                          refine pure_ (i := 2) (N := some 59) (v := ?_) (a' := ?_) #[true, true, true, false, false, false, false, false, false, false, false, false, false, false, false] rfl rfl (any_of HT_.out (by kernel_rfl)) (fun _ _ _ h => h) (Or.inl ⟨by rfl, ?_⟩) ?_ ?_
                          rotate_left
                          · intro w'
                            go_simp
                            with_reducible rfl
                          rotate_left
                          · simp only [Act.put, List.setIfInBounds_toArray, List.set_cons_zero, List.set_cons_succ, i64_w, i32_w]
                            rfl
                          refine pure_ (i := 3) (N := some 60) (v := ?_) (a' := ?_) #[true, true, true, true, false, false, false, false, false, false, false, false, false, false, false] rfl rfl (any_of HT_.out (by kernel_rfl)) (fun _ _ _ h => h) (Or.inl ⟨by rfl, ?_⟩) ?_ ?_
                          rotate_left
                          · intro w'
                            go_simp
                            with_reducible rfl
                          rotate_left
                          · simp only [Act.put, List.setIfInBounds_toArray, List.set_cons_zero, List.set_cons_succ, i64_w, i32_w]
                            rfl
                          refine pure_ (i := 5) (N := some 62) (v := ?_) (a' := ?_) #[true, true, true, true, false, true, false, false, false, false, false, false, false, false, false] rfl rfl (any_of HT_.out (by kernel_rfl)) (fun _ _ _ h => h) (Or.inl ⟨by rfl, ?_⟩) ?_ ?_
                          rotate_left
                          · intro w'
                            go_simp
                            with_reducible rfl
                          rotate_left
                          · simp only [Act.put, List.setIfInBounds_toArray, List.set_cons_zero, List.set_cons_succ, i64_w, i32_w]
                            rfl
                          refine pure_ (i := 7) (N := some 64) (v := ?_) (a' := ?_) #[true, true, true, true, false, true, false, true, false, false, false, false, false, false, false] rfl rfl (any_of HT_.out (by kernel_rfl)) (fun _ _ _ h => h) (Or.inl ⟨by rfl, ?_⟩) ?_ ?_
                          rotate_left
                          · intro w'
                            go_simp
                            with_reducible rfl
                          rotate_left
                          · simp only [Act.put, List.setIfInBounds_toArray, List.set_cons_zero, List.set_cons_succ, i64_w, i32_w]
                            rfl
                          refine pure_ (i := 8) (N := some 65) (v := ?_) (a' := ?_) #[true, true, true, true, false, true, false, true, true, false, false, false, false, false, false] rfl rfl (any_of HT_.out (by kernel_rfl)) (fun _ _ _ h => h) (Or.inl ⟨by rfl, ?_⟩) ?_ ?_
                          rotate_left
                          · intro w'
                            go_simp
                            with_reducible rfl
                          rotate_left
                          · simp only [Act.put, List.setIfInBounds_toArray, List.set_cons_zero, List.set_cons_succ, i64_w, i32_w]
                            rfl
                          refine pure_ (i := 9) (N := some 66) (v := ?_) (a' := ?_) #[true, true, true, true, false, true, false, true, true, true, false, false, false, false, false] rfl rfl (any_of HT_.out (by kernel_rfl)) (fun _ _ _ h => h) (Or.inl ⟨by rfl, ?_⟩) ?_ ?_
                          rotate_left
                          · intro w'
                            go_simp
                            with_reducible rfl
                          rotate_left
                          · simp only [Act.put, List.setIfInBounds_toArray, List.set_cons_zero, List.set_cons_succ, i64_w, i32_w]
                            rfl
                          refine pure_ (i := 10) (N := some 67) (v := ?_) (a' := ?_) #[true, true, true, true, false, true, false, true, true, true, true, false, false, false, false] rfl rfl (any_of HT_.out (by kernel_rfl)) (fun _ _ _ h => h) (Or.inl ⟨by rfl, ?_⟩) ?_ ?_
                          rotate_left
                          · intro w'
                            go_simp
                            with_reducible rfl
                          rotate_left
                          · simp only [Act.put, List.setIfInBounds_toArray, List.set_cons_zero, List.set_cons_succ, i64_w, i32_w]
                            rfl
                          refine take_ (i := 4) (N := some 61) (v := ?_) (a' := ?_) #[true, true, true, true, true, true, false, true, true, true, true, false, false, false, false] rfl rfl (take_ofW HT_.out HW_.out (by kernel_rfl)) (fun _ _ _ h => h) (Or.inl ⟨by rfl, ?_⟩) hHeld ?_ ?_
                          rotate_left
                          · rintro w' ⟨s0, s1, s2, s3⟩
                            go_simp
                            with_reducible rfl
                          rotate_left
                          · simp only [Act.put, List.setIfInBounds_toArray, List.set_cons_zero, List.set_cons_succ, i64_w, i32_w]
                            rfl
                          refine pure_ (i := 6) (N := some 63) (v := ?_) (a' := ?_) #[true, true, true, true, true, true, true, true, true, true, true, false, false, false, false] rfl rfl (any_of HT_.out (by kernel_rfl)) (fun _ _ _ h => h) (Or.inl ⟨by rfl, ?_⟩) ?_ ?_
                          rotate_left
                          · intro w'
                            go_simp
                            with_reducible rfl
                          rotate_left
                          · simp only [Act.put, List.setIfInBounds_toArray, List.set_cons_zero, List.set_cons_succ, i64_w, i32_w]
                            rfl
                          refine take_ (i := 11) (N := some 68) (v := ?_) (a' := ?_) #[true, true, true, true, true, true, true, true, true, true, true, true, false, false, false] rfl rfl (take_ofW HT_.out HW_.out (by kernel_rfl)) (fun _ _ _ h => h) (Or.inl ⟨by rfl, ?_⟩) hHeld ?_ ?_
                          rotate_left
                          · rintro w' ⟨s0, s1, s2, s3⟩
                            go_simp
                            with_reducible rfl
                          rotate_left
                          · simp only [Act.put, List.setIfInBounds_toArray, List.set_cons_zero, List.set_cons_succ, i64_w, i32_w]
                            rfl
                          refine pure_ (i := 12) (N := some 69) (v := ?_) (a' := ?_) #[true, true, true, true, true, true, true, true, true, true, true, true, true, false, false] rfl rfl (any_of HT_.out (by kernel_rfl)) (fun _ _ _ h => h) (Or.inl ⟨by rfl, ?_⟩) ?_ ?_
                          rotate_left
                          · intro w'
                            go_simp
                            with_reducible rfl
                          rotate_left
                          · simp only [Act.put, List.setIfInBounds_toArray, List.set_cons_zero, List.set_cons_succ, i64_w, i32_w]
                            rfl
                          refine one_ (i := 13) (N := some 13) #[true, true, true, true, true, true, true, true, true, true, true, true, true, true, false] rfl rfl (one_of HT_.out (by kernel_rfl)) (by decide) (fun K hK => ?_)
                          refine box_step ?hg (N := 13) ?hd (cs := #[.string (⟨#[]⟩ : ByteArray), .string (⟨#[]⟩ : ByteArray)]) (t := 37) ?hr ?_; (case hd => rfl); (case hg => rfl); (case hr => first | (go_simp; done) | (go_simp; rfl))
                          intro gb224 hg w25 hbox hb
                          have HS0_ := (hb.cell (World.block_lt_of_cell? _ _ (hHeld.1))).trans (hHeld.1)
                          have HS1_ := (hb.cell (World.block_lt_of_cell? _ _ (hHeld.2.1))).trans (hHeld.2.1)
                          have HS2_ := (hb.cell (World.block_lt_of_cell? _ _ (hHeld.2.2.1))).trans (hHeld.2.2.1)
                          have HS3_ := (hb.cell (World.block_lt_of_cell? _ _ (hHeld.2.2.2))).trans (hHeld.2.2.2)
                          have n0_ := Aside0.mk (Kd.R_below (Kd.R_elderB (by (with_reducible repeat (first | apply Kd.R_alloc | apply Kd.R_drewN | apply Kd.R_drew)); exact HO_7.out) gb224 (Nat.le_of_eq hg.symm)) hb)
                          have n1_ := Aside0.mk (Kd.R_below (Kd.R_elderB (by (with_reducible repeat (first | apply Kd.R_alloc | apply Kd.R_drewN | apply Kd.R_drew)); exact HO_9.out) gb224 (Nat.le_of_eq hg.symm)) hb)
                          have n2_ := Aside0.mk (below_step (by repeat (first | (with_reducible first | exact HB.out | apply below_alloc | apply pw_below_drewN | apply below_drew1) | exact HB.out)) hb)
                          have n3_ := Aside0.mk (hbox)
                          have n4_ := Aside0.mk ((by rw [hg]; exact (below_size (by repeat (first | (with_reducible first | exact HB.out | apply below_alloc | apply pw_below_drewN | apply below_drew1) | exact HB.out))) : w.heap.size ≤ gb224))
                          have n5_ := Aside0.mk ((by rw [hg]; exact (below_size (by repeat (first | (with_reducible first | exact HB.out | apply below_alloc | apply pw_below_drewN | apply below_drew1) | exact HB.out))) : w.heap.size ≤ gb224))
                          clear HO_7
                          clear HO_9
                          clear HB
                          have HO_7 := n0_
                          have HO_9 := n1_
                          have HB := n2_
                          have BK224 := n3_
                          have GW224 := n4_
                          have GE224 := n5_
                          clear n0_ n1_ n2_ n3_ n4_ n5_
                          clear hb hbox hg
                          refine hK.out _ _ ⟨HS0_, HS1_, HS2_, HS3_⟩ (fun hHeld => ?_)
                          clear hK K
                          refine norm_ (a' := ?_) ?_ ?_
                          rotate_left
                          · show Act.put _ (some 13) _ = _
                            simp only [Act.put, List.setIfInBounds_toArray, List.set_cons_zero, List.set_cons_succ, i64_w, i32_w]
                            rfl
                          refine one_ (i := 14) (N := none) #[true, true, true, true, true, true, true, true, true, true, true, true, true, true, true] rfl rfl (one_of HT_.out (by kernel_rfl)) (by decide) (fun K hK => ?_)
                          have hs26 : w25.cell? ⟨gb224, 0, none⟩ = some (.string (⟨#[]⟩ : ByteArray)) := (blk_cell BK224.out 0).trans rfl
                          have hfs26 := blk_frozen BK224.out 0
                          have hs27 : w25.cell? ⟨gb224, 1, none⟩ = some (.string (⟨#[]⟩ : ByteArray)) := (blk_cell BK224.out 1).trans rfl
                          have hfs27 := blk_frozen BK224.out 1
                          refine skip_ (w1 := ?_) (by rfl) rfl ?_ ?_
                          rotate_left
                          · go_simp
                            rfl
                          refine hK.out _ _ ⟨((cell_far (p := ⟨gb224, _, none⟩) (by first | exact Kd.own_blk (Kd.R_away HO_9.out (fun _ hk => hk.2)) | (rw [add_block]; exact Kd.own_blk (Kd.R_away HO_9.out (fun _ hk => hk.2))) | (show (Addr.add _ _).block ≠ _; rw [add_block]; exact Kd.own_blk (Kd.R_away HO_9.out (fun _ hk => hk.2))) | (dsimp only; exact Kd.own_blk (Kd.R_away HO_9.out (fun _ hk => hk.2)))) _).trans (((cell_far (p := ⟨gb224, _, none⟩) (by first | exact Kd.own_blk (Kd.R_away HO_9.out (fun _ hk => hk.2)) | (rw [add_block]; exact Kd.own_blk (Kd.R_away HO_9.out (fun _ hk => hk.2))) | (show (Addr.add _ _).block ≠ _; rw [add_block]; exact Kd.own_blk (Kd.R_away HO_9.out (fun _ hk => hk.2))) | (dsimp only; exact Kd.own_blk (Kd.R_away HO_9.out (fun _ hk => hk.2)))) _).trans (hHeld.1)))), ((cell_far (p := ⟨gb224, _, none⟩) (by first | exact Kd.own_blk (Kd.R_away HO_9.out (fun _ hk => hk.2)) | (rw [add_block]; exact Kd.own_blk (Kd.R_away HO_9.out (fun _ hk => hk.2))) | (show (Addr.add _ _).block ≠ _; rw [add_block]; exact Kd.own_blk (Kd.R_away HO_9.out (fun _ hk => hk.2))) | (dsimp only; exact Kd.own_blk (Kd.R_away HO_9.out (fun _ hk => hk.2)))) _).trans (((cell_far (p := ⟨gb224, _, none⟩) (by first | exact Kd.own_blk (Kd.R_away HO_9.out (fun _ hk => hk.2)) | (rw [add_block]; exact Kd.own_blk (Kd.R_away HO_9.out (fun _ hk => hk.2))) | (show (Addr.add _ _).block ≠ _; rw [add_block]; exact Kd.own_blk (Kd.R_away HO_9.out (fun _ hk => hk.2))) | (dsimp only; exact Kd.own_blk (Kd.R_away HO_9.out (fun _ hk => hk.2)))) _).trans (hHeld.2.1)))), ((cell_far (p := ⟨gb224, _, none⟩) (by first | exact Kd.own_blk (Kd.R_away HO_9.out (fun _ hk => hk.2)) | (rw [add_block]; exact Kd.own_blk (Kd.R_away HO_9.out (fun _ hk => hk.2))) | (show (Addr.add _ _).block ≠ _; rw [add_block]; exact Kd.own_blk (Kd.R_away HO_9.out (fun _ hk => hk.2))) | (dsimp only; exact Kd.own_blk (Kd.R_away HO_9.out (fun _ hk => hk.2)))) _).trans (((cell_far (p := ⟨gb224, _, none⟩) (by first | exact Kd.own_blk (Kd.R_away HO_9.out (fun _ hk => hk.2)) | (rw [add_block]; exact Kd.own_blk (Kd.R_away HO_9.out (fun _ hk => hk.2))) | (show (Addr.add _ _).block ≠ _; rw [add_block]; exact Kd.own_blk (Kd.R_away HO_9.out (fun _ hk => hk.2))) | (dsimp only; exact Kd.own_blk (Kd.R_away HO_9.out (fun _ hk => hk.2)))) _).trans (hHeld.2.2.1)))), ((cell_far (p := ⟨gb224, _, none⟩) (by first | exact Kd.own_blk (Kd.R_away HO_9.out (fun _ hk => hk.2)) | (rw [add_block]; exact Kd.own_blk (Kd.R_away HO_9.out (fun _ hk => hk.2))) | (show (Addr.add _ _).block ≠ _; rw [add_block]; exact Kd.own_blk (Kd.R_away HO_9.out (fun _ hk => hk.2))) | (dsimp only; exact Kd.own_blk (Kd.R_away HO_9.out (fun _ hk => hk.2)))) _).trans (((cell_far (p := ⟨gb224, _, none⟩) (by first | exact Kd.own_blk (Kd.R_away HO_9.out (fun _ hk => hk.2)) | (rw [add_block]; exact Kd.own_blk (Kd.R_away HO_9.out (fun _ hk => hk.2))) | (show (Addr.add _ _).block ≠ _; rw [add_block]; exact Kd.own_blk (Kd.R_away HO_9.out (fun _ hk => hk.2))) | (dsimp only; exact Kd.own_blk (Kd.R_away HO_9.out (fun _ hk => hk.2)))) _).trans (hHeld.2.2.2))))⟩ (fun hHeld => ?_)
                          clear hK K
                          refine done_ (done_of HT_.out (by kernel_rfl)) ?_
                          go_upto_region 14 with (fail)
                          go_cut [79] (fun v79 wc => ∃ (kq : Nat) (x79_21 : Bool), v79 = .bool x79_21 ∧ Aside0 (sennitlaw20_TableMore.j2 kq t207 ji9 t213 t217 x11_2 x12_2 x79_21 (((rd_T37 t217 x12_2).f0).extract 0 (ji9 : Int).toNat) ((rd_T37 t217 x12_2).f1) = some r) ∧ Aside0 (kq ≤ k2) ∧ Aside0 (Kd.R k37 37 wc w.heap.size (fun k_ => some k_ ≠ ((.slice (some ad221) t217.length co23) : Value).ownBlock ∧ k_ ≠ gb224) v215 t213) ∧ Aside0 (Kd.R k37 37 wc w.heap.size (fun k_ => some k_ ≠ (v215 : Value).ownBlock ∧ k_ ≠ gb224) (.slice (some ad221) t217.length co23) t217) ∧ Aside0 (wc.heap[gb224]? = some (.cells #[.string (((rd_T37 t217 x12_2).f0).extract 0 (ji9 : Int).toNat), .string ((rd_T37 t217 x12_2).f1)] 37 (0, 0))) ∧ Aside0 (Below w.heap.size w wc))
                          case first =>
                            have H := HC22.out
                            clear HC22
                            replace H := Option.bind_eq_some_iff.mp H
                            obtain ⟨t226, A280, H⟩ := H
                            replace H : (if t226 = true then ((table_Lost.f (((rd_T37 t217 x12_2).f0).extract 0 (ji9 : Int).toNat) ((rd_T37 t217 x12_2).f1)).bind fun t227 => (sennitlaw20_TableMore.j2 k2 t207 ji9 t213 t217 x11_2 x12_2 (!t227) (((rd_T37 t217 x12_2).f0).extract 0 (ji9 : Int).toNat) ((rd_T37 t217 x12_2).f1))) else (sennitlaw20_TableMore.j2 k2 t207 ji9 t213 t217 x11_2 x12_2 false (((rd_T37 t217 x12_2).f0).extract 0 (ji9 : Int).toNat) ((rd_T37 t217 x12_2).f1))) = some r := H
                            have A28 := Aside0.mk A280
                            clear A280
                            by_cases c29 : t226 = true
                            · subst c29
                              have H1 : ((table_Lost.f (((rd_T37 t217 x12_2).f0).extract 0 (ji9 : Int).toNat) ((rd_T37 t217 x12_2).f1)).bind fun t227 => (sennitlaw20_TableMore.j2 k2 t207 ji9 t213 t217 x11_2 x12_2 (!t227) (((rd_T37 t217 x12_2).f0).extract 0 (ji9 : Int).toNat) ((rd_T37 t217 x12_2).f1))) = some r := by rw [if_pos rfl] at H; exact H
                              clear H
                              have H := H1
                              clear H1
                              replace H := Option.bind_eq_some_iff.mp H
                              obtain ⟨t227, A300, H⟩ := H
                              replace H : (sennitlaw20_TableMore.j2 k2 t207 ji9 t213 t217 x11_2 x12_2 (!t227) (((rd_T37 t217 x12_2).f0).extract 0 (ji9 : Int).toNat) ((rd_T37 t217 x12_2).f1)) = some r := H
                              have A30 := Aside0.mk A300
                              clear A300
                              have H' := Aside0.mk H
                              clear H
                              have p225 : 0 ≤ (x12_2 : Int) := of_decide_eq_true (by first | (with_reducible assumption) | assumption)
                              have q225 : x12_2 < (t217.length : Int) := of_decide_eq_true (by first | (with_reducible assumption) | assumption)
                              obtain ⟨ad225, e225, hx225_0, hx225_1⟩ := at_T37 (Kd.R_reads' HO_9.out).2.2 x12_2 p225 q225
                              obtain rfl : ad221 = ad225 := (by injection e225)
                              have hn225_0 : ad221.block ≠ gb224 := Kd.own_blk (Kd.R_away HO_9.out (fun _ hk => hk.2))
                              have hn225_1 : ad221.block ≠ gb224 := Kd.own_blk (Kd.R_away HO_9.out (fun _ hk => hk.2))
                              replace hx225_0 := (cell_far (p := ⟨gb224, 0, none⟩) (by first | (rw [add_block]; exact hn225_0) | (show (Addr.add _ _).block ≠ _; rw [add_block]; exact hn225_0) | exact hn225_0) (.string (((rd_T37 t217 x12_2).f0).extract 0 (ji9 : Int).toNat))).trans hx225_0
                              replace hx225_1 := (cell_far (p := ⟨gb224, 0, none⟩) (by first | (rw [add_block]; exact hn225_0) | (show (Addr.add _ _).block ≠ _; rw [add_block]; exact hn225_0) | exact hn225_0) (.string (((rd_T37 t217 x12_2).f0).extract 0 (ji9 : Int).toNat))).trans hx225_1
                              replace hx225_0 := (cell_far (p := ⟨gb224, 1, none⟩) (by first | (rw [add_block]; exact hn225_1) | (show (Addr.add _ _).block ≠ _; rw [add_block]; exact hn225_1) | exact hn225_1) (.string ((rd_T37 t217 x12_2).f1))).trans hx225_0
                              replace hx225_1 := (cell_far (p := ⟨gb224, 1, none⟩) (by first | (rw [add_block]; exact hn225_1) | (show (Addr.add _ _).block ≠ _; rw [add_block]; exact hn225_1) | exact hn225_1) (.string ((rd_T37 t217 x12_2).f1))).trans hx225_1
                              clear hn225_0
                              clear hn225_1
                              replace p225 := eq_true p225
                              replace q225 := eq_true q225
                              go_wp2_with fail
                              refine (table_Lost.calls ((rd_T37 t217 x12_2).f0) ((rd_T37 t217 x12_2).f1) true _ A28.out).mono ?_
                              rintro e w31 ⟨rfl, hb⟩
                              have n0_ := Aside0.mk (Kd.R_below (by (with_reducible repeat (first | apply Kd.R_alloc | apply Kd.R_drewN | apply Kd.R_drew)); exact (Kd.R_mono (Kd.R_far (p := ⟨gb224, 1, none⟩) (Kd.R_far (p := ⟨gb224, 0, none⟩) (Kd.R_mono HO_7.out (fun k_ hk => (⟨hk, hk.2⟩ : _ ∧ k_ ≠ gb224))) (fun _ hk => hk.2) (.string (((rd_T37 t217 x12_2).f0).extract 0 (ji9 : Int).toNat))) (fun _ hk => hk.2) (.string ((rd_T37 t217 x12_2).f1))) (fun _ h_ => h_.1))) hb)
                              have n1_ := Aside0.mk (Kd.R_below (by (with_reducible repeat (first | apply Kd.R_alloc | apply Kd.R_drewN | apply Kd.R_drew)); exact (Kd.R_mono (Kd.R_far (p := ⟨gb224, 1, none⟩) (Kd.R_far (p := ⟨gb224, 0, none⟩) (Kd.R_mono HO_9.out (fun k_ hk => (⟨hk, hk.2⟩ : _ ∧ k_ ≠ gb224))) (fun _ hk => hk.2) (.string (((rd_T37 t217 x12_2).f0).extract 0 (ji9 : Int).toNat))) (fun _ hk => hk.2) (.string ((rd_T37 t217 x12_2).f1))) (fun _ h_ => h_.1))) hb)
                              have n2_ := Aside0.mk (blk_below (g := gb224) (o := .cells #[.string (((rd_T37 t217 x12_2).f0).extract 0 (ji9 : Int).toNat), .string ((rd_T37 t217 x12_2).f1)] 37 (0, 0)) (by (with_reducible repeat (first | refine blk_drewN ?_ _ | refine blk_drew ?_ | refine blk_alloc ?_ _)); refine blk_put (cs := #[.string (((rd_T37 t217 x12_2).f0).extract 0 (ji9 : Int).toNat), .string (⟨#[]⟩ : ByteArray)]) ?_ 1 _ rfl; (with_reducible repeat (first | refine blk_drewN ?_ _ | refine blk_drew ?_ | refine blk_alloc ?_ _)); refine blk_put (cs := #[.string (⟨#[]⟩ : ByteArray), .string (⟨#[]⟩ : ByteArray)]) ?_ 0 _ rfl; (with_reducible repeat (first | refine blk_drewN ?_ _ | refine blk_drew ?_ | refine blk_alloc ?_ _)); exact BK224.out) hb)
                              have n3_ : Aside0 (Below w.heap.size w w31) := Aside0.mk (below_step ((HB.out.setCell (p := ⟨gb224, 0, none⟩) GE224.out _).setCell (p := ⟨gb224, 1, none⟩) GE224.out _) hb)
                              clear HO_7
                              clear HO_9
                              clear BK224
                              clear HB
                              have HO_7 := n0_
                              have HO_9 := n1_
                              have BK224 := n2_
                              have HB := n3_
                              clear n0_ n1_ n2_ n3_
                              (try clear hb)
                              (try clear hb2)
                              (try clear hk)
                              (try clear hi)
                              have hcz32_0 : w31.cell? ⟨gb224, 0, none⟩ = some (.string (((rd_T37 t217 x12_2).f0).extract 0 (ji9 : Int).toNat)) := (blk_cell BK224.out 0).trans rfl
                              have hcz32_1 : w31.cell? ⟨gb224, 1, none⟩ = some (.string ((rd_T37 t217 x12_2).f1)) := (blk_cell BK224.out 1).trans rfl
                              have hfz32_0 := blk_frozen BK224.out 0
                              have hfz32_1 := blk_frozen BK224.out 1
                              go_wp2_with (first | (go_at_call 32; (with_reducible refine (table_Lost.calls (((rd_T37 t217 x12_2).f0).extract 0 (ji9 : Int).toNat) ((rd_T37 t217 x12_2).f1) t227 _ A30.out).mono ?_); rintro e w33 ⟨rfl, hb⟩; have n0_ := Aside0.mk (Kd.R_below (by (with_reducible repeat (first | apply Kd.R_alloc | apply Kd.R_drewN | apply Kd.R_drew)); exact HO_7.out) hb); have n1_ := Aside0.mk (Kd.R_below (by (with_reducible repeat (first | apply Kd.R_alloc | apply Kd.R_drewN | apply Kd.R_drew)); exact HO_9.out) hb); have n2_ := Aside0.mk (blk_below (g := gb224) (o := .cells #[.string (((rd_T37 t217 x12_2).f0).extract 0 (ji9 : Int).toNat), .string ((rd_T37 t217 x12_2).f1)] 37 (0, 0)) (by (with_reducible repeat (first | refine blk_drewN ?_ _ | refine blk_drew ?_ | refine blk_alloc ?_ _)); exact BK224.out) hb); have n3_ := Aside0.mk (below_step (by repeat (first | (with_reducible first | exact HB.out | apply below_alloc | apply pw_below_drewN | apply below_drew1 | refine below_set ?_ GE224.out) | exact HB.out)) hb); clear HO_7; clear HO_9; clear BK224; clear HB; have HO_7 := n0_; have HO_9 := n1_; have BK224 := n2_; have HB := n3_; clear n0_ n1_ n2_ n3_; (try clear hb); (try clear hb2); (try clear hk); (try clear hi)))
                              go_meet
                              case rel => exact ⟨_, (!t227), (by first | rfl | (simp; done) | (simp [*]; done)), H', ⟨by have := HJ3.out; have := HK2.out; first | omega | exact Nat.le_refl _⟩, ⟨by (with_reducible repeat (first | apply Kd.R_alloc | apply Kd.R_drewN | apply Kd.R_drew)); exact HO_7.out⟩, ⟨by (with_reducible repeat (first | apply Kd.R_alloc | apply Kd.R_drewN | apply Kd.R_drew)); exact HO_9.out⟩, ⟨by (with_reducible repeat (first | refine blk_drewN ?_ _ | refine blk_drew ?_ | refine blk_alloc ?_ _)); exact BK224.out⟩, ⟨by repeat (first | (with_reducible first | exact HB.out | apply below_alloc | apply pw_below_drewN | apply below_drew1 | refine below_set ?_ GE224.out) | exact HB.out)⟩⟩
                            · replace c29 := Bool.eq_false_iff.mpr c29
                              subst c29
                              have H1 : (sennitlaw20_TableMore.j2 k2 t207 ji9 t213 t217 x11_2 x12_2 false (((rd_T37 t217 x12_2).f0).extract 0 (ji9 : Int).toNat) ((rd_T37 t217 x12_2).f1)) = some r := by rw [if_neg (show ¬ (false = true) by decide)] at H; exact H
                              clear H
                              have H := H1
                              clear H1
                              have H' := Aside0.mk H
                              clear H
                              have p225 : 0 ≤ (x12_2 : Int) := of_decide_eq_true (by first | (with_reducible assumption) | assumption)
                              have q225 : x12_2 < (t217.length : Int) := of_decide_eq_true (by first | (with_reducible assumption) | assumption)
                              obtain ⟨ad225, e225, hx225_0, hx225_1⟩ := at_T37 (Kd.R_reads' HO_9.out).2.2 x12_2 p225 q225
                              obtain rfl : ad221 = ad225 := (by injection e225)
                              have hn225_0 : ad221.block ≠ gb224 := Kd.own_blk (Kd.R_away HO_9.out (fun _ hk => hk.2))
                              have hn225_1 : ad221.block ≠ gb224 := Kd.own_blk (Kd.R_away HO_9.out (fun _ hk => hk.2))
                              replace hx225_0 := (cell_far (p := ⟨gb224, 0, none⟩) (by first | (rw [add_block]; exact hn225_0) | (show (Addr.add _ _).block ≠ _; rw [add_block]; exact hn225_0) | exact hn225_0) (.string (((rd_T37 t217 x12_2).f0).extract 0 (ji9 : Int).toNat))).trans hx225_0
                              replace hx225_1 := (cell_far (p := ⟨gb224, 0, none⟩) (by first | (rw [add_block]; exact hn225_0) | (show (Addr.add _ _).block ≠ _; rw [add_block]; exact hn225_0) | exact hn225_0) (.string (((rd_T37 t217 x12_2).f0).extract 0 (ji9 : Int).toNat))).trans hx225_1
                              replace hx225_0 := (cell_far (p := ⟨gb224, 1, none⟩) (by first | (rw [add_block]; exact hn225_1) | (show (Addr.add _ _).block ≠ _; rw [add_block]; exact hn225_1) | exact hn225_1) (.string ((rd_T37 t217 x12_2).f1))).trans hx225_0
                              replace hx225_1 := (cell_far (p := ⟨gb224, 1, none⟩) (by first | (rw [add_block]; exact hn225_1) | (show (Addr.add _ _).block ≠ _; rw [add_block]; exact hn225_1) | exact hn225_1) (.string ((rd_T37 t217 x12_2).f1))).trans hx225_1
                              clear hn225_0
                              clear hn225_1
                              replace p225 := eq_true p225
                              replace q225 := eq_true q225
                              go_wp2_with fail
                              refine (table_Lost.calls ((rd_T37 t217 x12_2).f0) ((rd_T37 t217 x12_2).f1) false _ A28.out).mono ?_
                              rintro e w34 ⟨rfl, hb⟩
                              have n0_ := Aside0.mk (Kd.R_below (by (with_reducible repeat (first | apply Kd.R_alloc | apply Kd.R_drewN | apply Kd.R_drew)); exact (Kd.R_mono (Kd.R_far (p := ⟨gb224, 1, none⟩) (Kd.R_far (p := ⟨gb224, 0, none⟩) (Kd.R_mono HO_7.out (fun k_ hk => (⟨hk, hk.2⟩ : _ ∧ k_ ≠ gb224))) (fun _ hk => hk.2) (.string (((rd_T37 t217 x12_2).f0).extract 0 (ji9 : Int).toNat))) (fun _ hk => hk.2) (.string ((rd_T37 t217 x12_2).f1))) (fun _ h_ => h_.1))) hb)
                              have n1_ := Aside0.mk (Kd.R_below (by (with_reducible repeat (first | apply Kd.R_alloc | apply Kd.R_drewN | apply Kd.R_drew)); exact (Kd.R_mono (Kd.R_far (p := ⟨gb224, 1, none⟩) (Kd.R_far (p := ⟨gb224, 0, none⟩) (Kd.R_mono HO_9.out (fun k_ hk => (⟨hk, hk.2⟩ : _ ∧ k_ ≠ gb224))) (fun _ hk => hk.2) (.string (((rd_T37 t217 x12_2).f0).extract 0 (ji9 : Int).toNat))) (fun _ hk => hk.2) (.string ((rd_T37 t217 x12_2).f1))) (fun _ h_ => h_.1))) hb)
                              have n2_ := Aside0.mk (blk_below (g := gb224) (o := .cells #[.string (((rd_T37 t217 x12_2).f0).extract 0 (ji9 : Int).toNat), .string ((rd_T37 t217 x12_2).f1)] 37 (0, 0)) (by (with_reducible repeat (first | refine blk_drewN ?_ _ | refine blk_drew ?_ | refine blk_alloc ?_ _)); refine blk_put (cs := #[.string (((rd_T37 t217 x12_2).f0).extract 0 (ji9 : Int).toNat), .string (⟨#[]⟩ : ByteArray)]) ?_ 1 _ rfl; (with_reducible repeat (first | refine blk_drewN ?_ _ | refine blk_drew ?_ | refine blk_alloc ?_ _)); refine blk_put (cs := #[.string (⟨#[]⟩ : ByteArray), .string (⟨#[]⟩ : ByteArray)]) ?_ 0 _ rfl; (with_reducible repeat (first | refine blk_drewN ?_ _ | refine blk_drew ?_ | refine blk_alloc ?_ _)); exact BK224.out) hb)
                              have n3_ : Aside0 (Below w.heap.size w w34) := Aside0.mk (below_step ((HB.out.setCell (p := ⟨gb224, 0, none⟩) GE224.out _).setCell (p := ⟨gb224, 1, none⟩) GE224.out _) hb)
                              clear HO_7
                              clear HO_9
                              clear BK224
                              clear HB
                              have HO_7 := n0_
                              have HO_9 := n1_
                              have BK224 := n2_
                              have HB := n3_
                              clear n0_ n1_ n2_ n3_
                              (try clear hb)
                              (try clear hb2)
                              (try clear hk)
                              (try clear hi)
                              go_wp2
                              go_meet
                              case rel => exact ⟨_, (false), (by first | rfl | (simp; done) | (simp [*]; done)), H', ⟨by have := HJ3.out; have := HK2.out; first | omega | exact Nat.le_refl _⟩, ⟨by (with_reducible repeat (first | apply Kd.R_alloc | apply Kd.R_drewN | apply Kd.R_drew)); exact HO_7.out⟩, ⟨by (with_reducible repeat (first | apply Kd.R_alloc | apply Kd.R_drewN | apply Kd.R_drew)); exact HO_9.out⟩, ⟨by (with_reducible repeat (first | refine blk_drewN ?_ _ | refine blk_drew ?_ | refine blk_alloc ?_ _)); exact BK224.out⟩, ⟨by repeat (first | (with_reducible first | exact HB.out | apply below_alloc | apply pw_below_drewN | apply below_drew1 | refine below_set ?_ GE224.out) | exact HB.out)⟩⟩
                          case rest =>
                            clear HC22
                            try clear c1
                            try clear q1
                            try clear c2
                            try clear p2
                            try clear q2
                            try clear hx2
                            try clear c3
                            try clear p6
                            try clear c7
                            try clear c8
                            try clear c10
                            try clear c10b0
                            try clear c10b1
                            try clear c11
                            try clear c11b0
                            try clear c11b1
                            try clear c14
                            try clear q14
                            try clear c17
                            try clear c17b0
                            try clear c18
                            try clear c18b0
                            try clear c19
                            try clear c19b0
                            try clear c19b1
                            try clear c20
                            try clear c20b0
                            try clear c20b1
                            try clear c21
                            try clear c21b0
                            try clear c21b1
                            try clear p22
                            try clear q22
                            try clear hx22
                            try clear c23
                            try clear c25
                            try clear c27
                            try clear c29
                            try clear c32
                            try clear hcz32_0
                            try clear hcz32_1
                            try clear hfz32_0
                            try clear hfz32_1
                            try clear hx221_0
                            try clear hx221_1
                            try clear hx222_0
                            try clear hx222_1
                            try clear hx223_0
                            try clear hx223_1
                            try clear hx225_0
                            try clear hx225_1
                            try clear p2
                            try clear p221
                            try clear p222
                            try clear p223
                            try clear p225
                            try clear p6
                            try clear q1
                            try clear q14
                            try clear q221
                            try clear q222
                            try clear q223
                            try clear q225
                            obtain ⟨kq, x79_21, rfl, HA, HJ21, HO_7, HO_9, BK224, HB⟩ := hcut
                            cases kq with
                            | zero => exact absurd HA.out (by simp [sennitlaw20_TableMore.j2])
                            | succ kj21 =>
                              have H := HA.out
                              clear HA
                              simp only [sennitlaw20_TableMore.j2] at H
                              by_cases c35 : x79_21 = true
                              · subst c35
                                have H1 : (sennitlaw20_TableMore.l0 kj21 t207 ji9 t213 t217 x11_2 (wrap64 (x12_2 + 1))) = some r := by rw [if_pos rfl] at H; exact H
                                clear H
                                have H := H1
                                clear H1
                                have H' := Aside0.mk H
                                clear H
                                go_wp2
                                go_roundg kj21
                                case measure => have := HJ3.out; have := HK2.out; have := HJ21.out; omega
                                case rel => exact ⟨(x11_2), (wrap64 (x12_2 + 1)), (by first | rfl | (simp; done) | (simp [*]; done)), (by first | rfl | (simp; done) | (simp [*]; done)), H', ⟨by have := HJ3.out; have := HK2.out; have := HJ21.out; omega⟩, ⟨by (with_reducible repeat (first | apply Kd.R_alloc | apply Kd.R_drewN | apply Kd.R_drew)); exact Kd.R_mono HO_7.out (fun _ hk => hk.1)⟩, ⟨by (with_reducible repeat (first | apply Kd.R_alloc | apply Kd.R_drewN | apply Kd.R_drew)); exact Kd.R_mono HO_9.out (fun _ hk => hk.1)⟩, ⟨by repeat (first | (with_reducible first | exact HB.out | apply below_alloc | apply pw_below_drewN | apply below_drew1 | refine below_set ?_ GE224.out) | exact HB.out)⟩⟩
                              · replace c35 := Bool.eq_false_iff.mpr c35
                                subst c35
                                have H1 : (if x11_2 ≥ (t213.length : Int) then (some false) else (if 0 ≤ x11_2 then (if x11_2 < (t213.length : Int) then (if (!((((rd_T37 t213 x11_2).f0).toList) == (((rd_T37 t217 x12_2).f0).extract 0 (ji9 : Int).toNat).toList) || (!((((rd_T37 t213 x11_2).f1).toList) == ((rd_T37 t217 x12_2).f1).toList))) = true then (some false) else (sennitlaw20_TableMore.l0 kj21 t207 ji9 t213 t217 (wrap64 (x11_2 + 1)) (wrap64 (x12_2 + 1)))) else (none)) else (none))) = some r := by rw [if_neg (show ¬ (false = true) by decide)] at H; exact H
                                clear H
                                have H := H1
                                clear H1
                                by_cases c36 : x11_2 ≥ (t213.length : Int)
                                · rw [if_pos c36] at H
                                  have c36b0 : decide ((t213.length : Int) ≤ x11_2) = true := decide_eq_true c36
                                  clear c36
                                  obtain rfl := Option.some.inj H
                                  try go_wp2
                                  have n0_ := Aside0.mk (Kd.R_drew HO_7.out)
                                  have n1_ := Aside0.mk (Kd.R_drew HO_9.out)
                                  have n2_ := Aside0.mk (blk_drew BK224.out)
                                  have n3_ := Aside0.mk (below_drew1 HB.out)
                                  clear HO_7
                                  clear HO_9
                                  clear BK224
                                  clear HB
                                  have HO_7 := n0_
                                  have HO_9 := n1_
                                  have BK224 := n2_
                                  have HB := n3_
                                  clear n0_ n1_ n2_ n3_
                                  obtain ⟨Ao38, co38, eo38⟩ := Kd.R_slice HO_7.out
                                  (first | subst eo38 | (injection eo38 with f1_ f2_ f3_; have f4_ := f1_.symm; have f5_ := f3_.symm; clear f1_ f2_ f3_; subst f4_; subst f5_))
                                  refine start_ (n := 12) (S := fun w' => True) (ds := []) #[false, false, false, false, false, false, false, false, false, false, false, false] (by kernel_rfl) rfl rfl trivial (fun hHeld => ?_); refine with_tabW sennitlaw20_TableMore.tab15 sennitlaw20_TableMore.bits15 (fun HT_ HW_ => ?_)
                                  generalize wc.drew = w37 at HO_7 HO_9 BK224 HB hHeld ⊢
                                  refine pure_ (i := 0) (N := some 80) (v := ?_) (a' := ?_) #[true, false, false, false, false, false, false, false, false, false, false, false] rfl rfl (any_of HT_.out (by kernel_rfl)) (fun _ _ _ h => h) (Or.inl ⟨by rfl, ?_⟩) ?_ ?_
                                  rotate_left
                                  · intro w'
                                    go_simp
                                    with_reducible rfl
                                  rotate_left
                                  · simp only [Act.put, List.setIfInBounds_toArray, List.set_cons_zero, List.set_cons_succ, i64_w, i32_w]
                                    rfl
                                  refine pure_ (i := 1) (N := some 81) (v := ?_) (a' := ?_) #[true, true, false, false, false, false, false, false, false, false, false, false] rfl rfl (any_of HT_.out (by kernel_rfl)) (fun _ _ _ h => h) (Or.inl ⟨by rfl, ?_⟩) ?_ ?_
                                  rotate_left
                                  · intro w'
                                    go_simp
                                    with_reducible rfl
                                  rotate_left
                                  · simp only [Act.put, List.setIfInBounds_toArray, List.set_cons_zero, List.set_cons_succ, i64_w, i32_w]
                                    rfl
                                  refine pure_ (i := 2) (N := some 82) (v := ?_) (a' := ?_) #[true, true, true, false, false, false, false, false, false, false, false, false] rfl rfl (any_of HT_.out (by kernel_rfl)) (fun _ _ _ h => h) (Or.inl ⟨by rfl, ?_⟩) ?_ ?_
                                  rotate_left
                                  · intro w'
                                    go_simp
                                    with_reducible rfl
                                  rotate_left
                                  · simp only [Act.put, List.setIfInBounds_toArray, List.set_cons_zero, List.set_cons_succ, i64_w, i32_w]
                                    rfl
                                  refine pure_ (i := 3) (N := some 83) (v := ?_) (a' := ?_) #[true, true, true, true, false, false, false, false, false, false, false, false] rfl rfl (any_of HT_.out (by kernel_rfl)) (fun _ _ _ h => h) (Or.inl ⟨by rfl, ?_⟩) ?_ ?_
                                  rotate_left
                                  · intro w'
                                    go_simp
                                    with_reducible rfl
                                  rotate_left
                                  · simp only [Act.put, List.setIfInBounds_toArray, List.set_cons_zero, List.set_cons_succ, i64_w, i32_w]
                                    rfl
                                  refine pure_ (i := 4) (N := some 84) (v := ?_) (a' := ?_) #[true, true, true, true, true, false, false, false, false, false, false, false] rfl rfl (any_of HT_.out (by kernel_rfl)) (fun _ _ _ h => h) (Or.inl ⟨by rfl, ?_⟩) ?_ ?_
                                  rotate_left
                                  · intro w'
                                    go_simp
                                    with_reducible rfl
                                  rotate_left
                                  · simp only [Act.put, List.setIfInBounds_toArray, List.set_cons_zero, List.set_cons_succ, i64_w, i32_w]
                                    rfl
                                  refine pure_ (i := 5) (N := some 85) (v := undef) (a' := ?_) #[true, true, true, true, true, true, false, false, false, false, false, false] rfl rfl (any_of HT_.out (by kernel_rfl)) (fun _ _ _ h => h) (Or.inr ⟨by rfl, rfl⟩) ?_ ?_
                                  rotate_left
                                  · simp only [Act.put, List.setIfInBounds_toArray, List.set_cons_zero, List.set_cons_succ, i64_w, i32_w]
                                    rfl
                                  refine pure_ (i := 6) (N := some 86) (v := undef) (a' := ?_) #[true, true, true, true, true, true, true, false, false, false, false, false] rfl rfl (any_of HT_.out (by kernel_rfl)) (fun _ _ _ h => h) (Or.inr ⟨by rfl, rfl⟩) ?_ ?_
                                  rotate_left
                                  · simp only [Act.put, List.setIfInBounds_toArray, List.set_cons_zero, List.set_cons_succ, i64_w, i32_w]
                                    rfl
                                  refine pure_ (i := 7) (N := some 87) (v := undef) (a' := ?_) #[true, true, true, true, true, true, true, true, false, false, false, false] rfl rfl (any_of HT_.out (by kernel_rfl)) (fun _ _ _ h => h) (Or.inr ⟨by rfl, rfl⟩) ?_ ?_
                                  rotate_left
                                  · simp only [Act.put, List.setIfInBounds_toArray, List.set_cons_zero, List.set_cons_succ, i64_w, i32_w]
                                    rfl
                                  refine pure_ (i := 8) (N := some 88) (v := undef) (a' := ?_) #[true, true, true, true, true, true, true, true, true, false, false, false] rfl rfl (any_of HT_.out (by kernel_rfl)) (fun _ _ _ h => h) (Or.inr ⟨by rfl, rfl⟩) ?_ ?_
                                  rotate_left
                                  · simp only [Act.put, List.setIfInBounds_toArray, List.set_cons_zero, List.set_cons_succ, i64_w, i32_w]
                                    rfl
                                  refine pure_ (i := 9) (N := some 89) (v := undef) (a' := ?_) #[true, true, true, true, true, true, true, true, true, true, false, false] rfl rfl (any_of HT_.out (by kernel_rfl)) (fun _ _ _ h => h) (Or.inr ⟨by rfl, rfl⟩) ?_ ?_
                                  rotate_left
                                  · simp only [Act.put, List.setIfInBounds_toArray, List.set_cons_zero, List.set_cons_succ, i64_w, i32_w]
                                    rfl
                                  refine pure_ (i := 10) (N := some 90) (v := undef) (a' := ?_) #[true, true, true, true, true, true, true, true, true, true, true, false] rfl rfl (any_of HT_.out (by kernel_rfl)) (fun _ _ _ h => h) (Or.inr ⟨by rfl, rfl⟩) ?_ ?_
                                  rotate_left
                                  · simp only [Act.put, List.setIfInBounds_toArray, List.set_cons_zero, List.set_cons_succ, i64_w, i32_w]
                                    rfl
                                  refine pure_ (i := 11) (N := some 91) (v := ?_) (a' := ?_) #[true, true, true, true, true, true, true, true, true, true, true, true] rfl rfl (any_of HT_.out (by kernel_rfl)) (fun _ _ _ h => h) (Or.inl ⟨by rfl, ?_⟩) ?_ ?_
                                  rotate_left
                                  · intro w'
                                    go_simp
                                    with_reducible rfl
                                  rotate_left
                                  · simp only [Act.put, List.setIfInBounds_toArray, List.set_cons_zero, List.set_cons_succ, i64_w, i32_w]
                                    rfl
                                  refine done_ (done_of HT_.out (by kernel_rfl)) ?_
                                  try go_wp2
                                  go_ret
                                  exact ⟨by first | rfl | (simp [errW_none, errW_some] <;> rfl) | (simp only [← hji9]; first | rfl | (simp [errW_none, errW_some] <;> rfl)) | (simp [*, errW_none, errW_some] <;> rfl), by repeat (first | (with_reducible first | exact HB.out | apply below_alloc | apply pw_below_drewN | apply below_drew1 | refine below_set ?_ GE224.out) | exact HB.out)⟩
                                · rw [if_neg c36] at H
                                  have c36b0 : decide ((t213.length : Int) ≤ x11_2) = false := decide_eq_false c36
                                  clear c36
                                  by_cases c39 : 0 ≤ x11_2
                                  · rw [if_pos c39] at H
                                    have c39b0 : decide (0 ≤ x11_2) = true := decide_eq_true c39
                                    clear c39
                                    by_cases c40 : x11_2 < (t213.length : Int)
                                    · rw [if_pos c40] at H
                                      have c40b0 : decide (x11_2 < (t213.length : Int)) = true := decide_eq_true c40
                                      clear c40
                                      by_cases c41 : (!((((rd_T37 t213 x11_2).f0).toList) == (((rd_T37 t217 x12_2).f0).extract 0 (ji9 : Int).toNat).toList) || (!((((rd_T37 t213 x11_2).f1).toList) == ((rd_T37 t217 x12_2).f1).toList))) = true
                                      · rw [if_pos c41] at H
                                        have c41b0 : (!((((rd_T37 t213 x11_2).f0).toList) == (((rd_T37 t217 x12_2).f0).extract 0 (ji9 : Int).toNat).toList) || (!((((rd_T37 t213 x11_2).f1).toList) == ((rd_T37 t217 x12_2).f1).toList))) = true := c41
                                        clear c41
                                        obtain rfl := Option.some.inj H
                                        try go_wp2
                                        have n0_ := Aside0.mk (Kd.R_drew HO_7.out)
                                        have n1_ := Aside0.mk (Kd.R_drew HO_9.out)
                                        have n2_ := Aside0.mk (blk_drew BK224.out)
                                        have n3_ := Aside0.mk (below_drew1 HB.out)
                                        clear HO_7
                                        clear HO_9
                                        clear BK224
                                        clear HB
                                        have HO_7 := n0_
                                        have HO_9 := n1_
                                        have BK224 := n2_
                                        have HB := n3_
                                        clear n0_ n1_ n2_ n3_
                                        obtain ⟨Ao43, co43, eo43⟩ := Kd.R_slice HO_7.out
                                        (first | subst eo43 | (injection eo43 with f1_ f2_ f3_; have f4_ := f1_.symm; have f5_ := f3_.symm; clear f1_ f2_ f3_; subst f4_; subst f5_))
                                        have p228 : 0 ≤ (x11_2 : Int) := of_decide_eq_true (by first | (with_reducible assumption) | assumption)
                                        have q228 : x11_2 < (t213.length : Int) := of_decide_eq_true (by first | (with_reducible assumption) | assumption)
                                        obtain ⟨ad228, e228, hx228_0, hx228_1⟩ := at_T37 (Kd.R_reads' HO_7.out).2.2 x11_2 p228 q228
                                        cases e228
                                        replace p228 := eq_true p228
                                        replace q228 := eq_true q228
                                        refine start_ (n := 12) (S := fun w' => w'.cell? ⟨gb224, 0, none⟩ = some (.string (((rd_T37 t217 x12_2).f0).extract 0 (ji9 : Int).toNat)) ∧ w'.cell? ⟨gb224, 1, none⟩ = some (.string ((rd_T37 t217 x12_2).f1)) ∧ w'.cell? (ad228.add ((x11_2).toNat * 2)) = some (.string ((rd_T37 t213 x11_2).f0)) ∧ w'.cell? ⟨(ad228.add ((x11_2).toNat * 2)).block, (ad228.add ((x11_2).toNat * 2)).off + 1, none⟩ = some (.string ((rd_T37 t213 x11_2).f1))) (ds := []) #[false, false, false, false, false, false, false, false, false, false, false, false] (by kernel_rfl) rfl rfl ⟨(blk_cell BK224.out 0).trans rfl, (blk_cell BK224.out 1).trans rfl, hx228_0, hx228_1⟩ (fun hHeld => ?_); refine with_tabW sennitlaw20_TableMore.tab15 sennitlaw20_TableMore.bits15 (fun HT_ HW_ => ?_)
                                        generalize wc.drew = w42 at HO_7 HO_9 BK224 HB hx228_0 hx228_1 hHeld ⊢
                                        refine pure_ (i := 0) (N := some 80) (v := ?_) (a' := ?_) #[true, false, false, false, false, false, false, false, false, false, false, false] rfl rfl (any_of HT_.out (by kernel_rfl)) (fun _ _ _ h => h) (Or.inl ⟨by rfl, ?_⟩) ?_ ?_
                                        rotate_left
                                        · intro w'
                                          go_simp
                                          with_reducible rfl
                                        rotate_left
                                        · simp only [Act.put, List.setIfInBounds_toArray, List.set_cons_zero, List.set_cons_succ, i64_w, i32_w]
                                          rfl
                                        refine pure_ (i := 1) (N := some 81) (v := ?_) (a' := ?_) #[true, true, false, false, false, false, false, false, false, false, false, false] rfl rfl (any_of HT_.out (by kernel_rfl)) (fun _ _ _ h => h) (Or.inl ⟨by rfl, ?_⟩) ?_ ?_
                                        rotate_left
                                        · intro w'
                                          go_simp
                                          with_reducible rfl
                                        rotate_left
                                        · simp only [Act.put, List.setIfInBounds_toArray, List.set_cons_zero, List.set_cons_succ, i64_w, i32_w]
                                          rfl
                                        refine pure_ (i := 2) (N := some 82) (v := ?_) (a' := ?_) #[true, true, true, false, false, false, false, false, false, false, false, false] rfl rfl (any_of HT_.out (by kernel_rfl)) (fun _ _ _ h => h) (Or.inl ⟨by rfl, ?_⟩) ?_ ?_
                                        rotate_left
                                        · intro w'
                                          go_simp
                                          with_reducible rfl
                                        rotate_left
                                        · simp only [Act.put, List.setIfInBounds_toArray, List.set_cons_zero, List.set_cons_succ, i64_w, i32_w]
                                          rfl
                                        refine pure_ (i := 3) (N := some 83) (v := ?_) (a' := ?_) #[true, true, true, true, false, false, false, false, false, false, false, false] rfl rfl (any_of HT_.out (by kernel_rfl)) (fun _ _ _ h => h) (Or.inl ⟨by rfl, ?_⟩) ?_ ?_
                                        rotate_left
                                        · intro w'
                                          go_simp
                                          with_reducible rfl
                                        rotate_left
                                        · simp only [Act.put, List.setIfInBounds_toArray, List.set_cons_zero, List.set_cons_succ, i64_w, i32_w]
                                          rfl
                                        refine pure_ (i := 4) (N := some 84) (v := ?_) (a' := ?_) #[true, true, true, true, true, false, false, false, false, false, false, false] rfl rfl (any_of HT_.out (by kernel_rfl)) (fun _ _ _ h => h) (Or.inl ⟨by rfl, ?_⟩) ?_ ?_
                                        rotate_left
                                        · intro w'
                                          go_simp
                                          with_reducible rfl
                                        rotate_left
                                        · simp only [Act.put, List.setIfInBounds_toArray, List.set_cons_zero, List.set_cons_succ, i64_w, i32_w]
                                          rfl
                                        refine pure_ (i := 5) (N := some 85) (v := ?_) (a' := ?_) #[true, true, true, true, true, true, false, false, false, false, false, false] rfl rfl (any_of HT_.out (by kernel_rfl)) (fun _ _ _ h => h) (Or.inl ⟨by rfl, ?_⟩) ?_ ?_
                                        rotate_left
                                        · intro w'
                                          go_simp
                                          with_reducible rfl
                                        rotate_left
                                        · simp only [Act.put, List.setIfInBounds_toArray, List.set_cons_zero, List.set_cons_succ, i64_w, i32_w]
                                          rfl
                                        refine pure_ (i := 6) (N := some 86) (v := ?_) (a' := ?_) #[true, true, true, true, true, true, true, false, false, false, false, false] rfl rfl (any_of HT_.out (by kernel_rfl)) (fun _ _ _ h => h) (Or.inl ⟨by rfl, ?_⟩) ?_ ?_
                                        rotate_left
                                        · intro w'
                                          go_simp
                                          with_reducible rfl
                                        rotate_left
                                        · simp only [Act.put, List.setIfInBounds_toArray, List.set_cons_zero, List.set_cons_succ, i64_w, i32_w]
                                          rfl
                                        refine pure_ (i := 7) (N := some 87) (v := ?_) (a' := ?_) #[true, true, true, true, true, true, true, true, false, false, false, false] rfl rfl (any_of HT_.out (by kernel_rfl)) (fun _ _ _ h => h) (Or.inl ⟨by rfl, ?_⟩) ?_ ?_
                                        rotate_left
                                        · intro w'
                                          go_simp
                                          with_reducible rfl
                                        rotate_left
                                        · simp only [Act.put, List.setIfInBounds_toArray, List.set_cons_zero, List.set_cons_succ, i64_w, i32_w]
                                          rfl
                                        refine take_ (i := 8) (N := some 88) (v := ?_) (a' := ?_) #[true, true, true, true, true, true, true, true, true, false, false, false] rfl rfl (take_ofW HT_.out HW_.out (by kernel_rfl)) (fun _ _ _ h => h) (Or.inl ⟨by rfl, ?_⟩) hHeld ?_ ?_
                                        rotate_left
                                        · rintro w' ⟨s0, s1, s2, s3⟩
                                          go_simp
                                          with_reducible rfl
                                        rotate_left
                                        · simp only [Act.put, List.setIfInBounds_toArray, List.set_cons_zero, List.set_cons_succ, i64_w, i32_w]
                                          rfl
                                        refine take_ (i := 9) (N := some 89) (v := ?_) (a' := ?_) #[true, true, true, true, true, true, true, true, true, true, false, false] rfl rfl (take_ofW HT_.out HW_.out (by kernel_rfl)) (fun _ _ _ h => h) (Or.inl ⟨by rfl, ?_⟩) hHeld ?_ ?_
                                        rotate_left
                                        · rintro w' ⟨s0, s1, s2, s3⟩
                                          go_simp
                                          with_reducible rfl
                                        rotate_left
                                        · simp only [Act.put, List.setIfInBounds_toArray, List.set_cons_zero, List.set_cons_succ, i64_w, i32_w]
                                          rfl
                                        refine pure_ (i := 10) (N := some 90) (v := ?_) (a' := ?_) #[true, true, true, true, true, true, true, true, true, true, true, false] rfl rfl (any_of HT_.out (by kernel_rfl)) (fun _ _ _ h => h) (Or.inl ⟨by rfl, ?_⟩) ?_ ?_
                                        rotate_left
                                        · intro w'
                                          go_simp
                                          with_reducible rfl
                                        rotate_left
                                        · simp only [Act.put, List.setIfInBounds_toArray, List.set_cons_zero, List.set_cons_succ, i64_w, i32_w]
                                          rfl
                                        refine pure_ (i := 11) (N := some 91) (v := ?_) (a' := ?_) #[true, true, true, true, true, true, true, true, true, true, true, true] rfl rfl (any_of HT_.out (by kernel_rfl)) (fun _ _ _ h => h) (Or.inl ⟨by rfl, ?_⟩) ?_ ?_
                                        rotate_left
                                        · intro w'
                                          go_simp
                                          with_reducible rfl
                                        rotate_left
                                        · simp only [Act.put, List.setIfInBounds_toArray, List.set_cons_zero, List.set_cons_succ, i64_w, i32_w]
                                          rfl
                                        refine done_ (done_of HT_.out (by kernel_rfl)) ?_
                                        try go_wp2
                                        go_ret
                                        exact ⟨by first | rfl | (simp [errW_none, errW_some] <;> rfl) | (simp only [← hji9]; first | rfl | (simp [errW_none, errW_some] <;> rfl)) | (simp [*, errW_none, errW_some] <;> rfl), by repeat (first | (with_reducible first | exact HB.out | apply below_alloc | apply pw_below_drewN | apply below_drew1 | refine below_set ?_ GE224.out) | exact HB.out)⟩
                                      · rw [if_neg c41] at H
                                        have c41b0 : (!((((rd_T37 t213 x11_2).f0).toList) == (((rd_T37 t217 x12_2).f0).extract 0 (ji9 : Int).toNat).toList) || (!((((rd_T37 t213 x11_2).f1).toList) == ((rd_T37 t217 x12_2).f1).toList))) = false := by simpa using c41
                                        clear c41
                                        have H' := Aside0.mk H
                                        clear H
                                        try go_wp2
                                        have n0_ := Aside0.mk (Kd.R_drew HO_7.out)
                                        have n1_ := Aside0.mk (Kd.R_drew HO_9.out)
                                        have n2_ := Aside0.mk (blk_drew BK224.out)
                                        have n3_ := Aside0.mk (below_drew1 HB.out)
                                        clear HO_7
                                        clear HO_9
                                        clear BK224
                                        clear HB
                                        have HO_7 := n0_
                                        have HO_9 := n1_
                                        have BK224 := n2_
                                        have HB := n3_
                                        clear n0_ n1_ n2_ n3_
                                        obtain ⟨Ao45, co45, eo45⟩ := Kd.R_slice HO_7.out
                                        (first | subst eo45 | (injection eo45 with f1_ f2_ f3_; have f4_ := f1_.symm; have f5_ := f3_.symm; clear f1_ f2_ f3_; subst f4_; subst f5_))
                                        have p228 : 0 ≤ (x11_2 : Int) := of_decide_eq_true (by first | (with_reducible assumption) | assumption)
                                        have q228 : x11_2 < (t213.length : Int) := of_decide_eq_true (by first | (with_reducible assumption) | assumption)
                                        obtain ⟨ad228, e228, hx228_0, hx228_1⟩ := at_T37 (Kd.R_reads' HO_7.out).2.2 x11_2 p228 q228
                                        cases e228
                                        replace p228 := eq_true p228
                                        replace q228 := eq_true q228
                                        refine start_ (n := 12) (S := fun w' => w'.cell? ⟨gb224, 0, none⟩ = some (.string (((rd_T37 t217 x12_2).f0).extract 0 (ji9 : Int).toNat)) ∧ w'.cell? ⟨gb224, 1, none⟩ = some (.string ((rd_T37 t217 x12_2).f1)) ∧ w'.cell? (ad228.add ((x11_2).toNat * 2)) = some (.string ((rd_T37 t213 x11_2).f0)) ∧ w'.cell? ⟨(ad228.add ((x11_2).toNat * 2)).block, (ad228.add ((x11_2).toNat * 2)).off + 1, none⟩ = some (.string ((rd_T37 t213 x11_2).f1))) (ds := []) #[false, false, false, false, false, false, false, false, false, false, false, false] (by kernel_rfl) rfl rfl ⟨(blk_cell BK224.out 0).trans rfl, (blk_cell BK224.out 1).trans rfl, hx228_0, hx228_1⟩ (fun hHeld => ?_); refine with_tabW sennitlaw20_TableMore.tab15 sennitlaw20_TableMore.bits15 (fun HT_ HW_ => ?_)
                                        generalize wc.drew = w44 at HO_7 HO_9 BK224 HB hx228_0 hx228_1 hHeld ⊢
                                        refine pure_ (i := 0) (N := some 80) (v := ?_) (a' := ?_) #[true, false, false, false, false, false, false, false, false, false, false, false] rfl rfl (any_of HT_.out (by kernel_rfl)) (fun _ _ _ h => h) (Or.inl ⟨by rfl, ?_⟩) ?_ ?_
                                        rotate_left
                                        · intro w'
                                          go_simp
                                          with_reducible rfl
                                        rotate_left
                                        · simp only [Act.put, List.setIfInBounds_toArray, List.set_cons_zero, List.set_cons_succ, i64_w, i32_w]
                                          rfl
                                        refine pure_ (i := 1) (N := some 81) (v := ?_) (a' := ?_) #[true, true, false, false, false, false, false, false, false, false, false, false] rfl rfl (any_of HT_.out (by kernel_rfl)) (fun _ _ _ h => h) (Or.inl ⟨by rfl, ?_⟩) ?_ ?_
                                        rotate_left
                                        · intro w'
                                          go_simp
                                          with_reducible rfl
                                        rotate_left
                                        · simp only [Act.put, List.setIfInBounds_toArray, List.set_cons_zero, List.set_cons_succ, i64_w, i32_w]
                                          rfl
                                        refine pure_ (i := 2) (N := some 82) (v := ?_) (a' := ?_) #[true, true, true, false, false, false, false, false, false, false, false, false] rfl rfl (any_of HT_.out (by kernel_rfl)) (fun _ _ _ h => h) (Or.inl ⟨by rfl, ?_⟩) ?_ ?_
                                        rotate_left
                                        · intro w'
                                          go_simp
                                          with_reducible rfl
                                        rotate_left
                                        · simp only [Act.put, List.setIfInBounds_toArray, List.set_cons_zero, List.set_cons_succ, i64_w, i32_w]
                                          rfl
                                        refine pure_ (i := 3) (N := some 83) (v := ?_) (a' := ?_) #[true, true, true, true, false, false, false, false, false, false, false, false] rfl rfl (any_of HT_.out (by kernel_rfl)) (fun _ _ _ h => h) (Or.inl ⟨by rfl, ?_⟩) ?_ ?_
                                        rotate_left
                                        · intro w'
                                          go_simp
                                          with_reducible rfl
                                        rotate_left
                                        · simp only [Act.put, List.setIfInBounds_toArray, List.set_cons_zero, List.set_cons_succ, i64_w, i32_w]
                                          rfl
                                        refine pure_ (i := 4) (N := some 84) (v := ?_) (a' := ?_) #[true, true, true, true, true, false, false, false, false, false, false, false] rfl rfl (any_of HT_.out (by kernel_rfl)) (fun _ _ _ h => h) (Or.inl ⟨by rfl, ?_⟩) ?_ ?_
                                        rotate_left
                                        · intro w'
                                          go_simp
                                          with_reducible rfl
                                        rotate_left
                                        · simp only [Act.put, List.setIfInBounds_toArray, List.set_cons_zero, List.set_cons_succ, i64_w, i32_w]
                                          rfl
                                        refine pure_ (i := 5) (N := some 85) (v := ?_) (a' := ?_) #[true, true, true, true, true, true, false, false, false, false, false, false] rfl rfl (any_of HT_.out (by kernel_rfl)) (fun _ _ _ h => h) (Or.inl ⟨by rfl, ?_⟩) ?_ ?_
                                        rotate_left
                                        · intro w'
                                          go_simp
                                          with_reducible rfl
                                        rotate_left
                                        · simp only [Act.put, List.setIfInBounds_toArray, List.set_cons_zero, List.set_cons_succ, i64_w, i32_w]
                                          rfl
                                        refine pure_ (i := 6) (N := some 86) (v := ?_) (a' := ?_) #[true, true, true, true, true, true, true, false, false, false, false, false] rfl rfl (any_of HT_.out (by kernel_rfl)) (fun _ _ _ h => h) (Or.inl ⟨by rfl, ?_⟩) ?_ ?_
                                        rotate_left
                                        · intro w'
                                          go_simp
                                          with_reducible rfl
                                        rotate_left
                                        · simp only [Act.put, List.setIfInBounds_toArray, List.set_cons_zero, List.set_cons_succ, i64_w, i32_w]
                                          rfl
                                        refine pure_ (i := 7) (N := some 87) (v := ?_) (a' := ?_) #[true, true, true, true, true, true, true, true, false, false, false, false] rfl rfl (any_of HT_.out (by kernel_rfl)) (fun _ _ _ h => h) (Or.inl ⟨by rfl, ?_⟩) ?_ ?_
                                        rotate_left
                                        · intro w'
                                          go_simp
                                          with_reducible rfl
                                        rotate_left
                                        · simp only [Act.put, List.setIfInBounds_toArray, List.set_cons_zero, List.set_cons_succ, i64_w, i32_w]
                                          rfl
                                        refine take_ (i := 8) (N := some 88) (v := ?_) (a' := ?_) #[true, true, true, true, true, true, true, true, true, false, false, false] rfl rfl (take_ofW HT_.out HW_.out (by kernel_rfl)) (fun _ _ _ h => h) (Or.inl ⟨by rfl, ?_⟩) hHeld ?_ ?_
                                        rotate_left
                                        · rintro w' ⟨s0, s1, s2, s3⟩
                                          go_simp
                                          with_reducible rfl
                                        rotate_left
                                        · simp only [Act.put, List.setIfInBounds_toArray, List.set_cons_zero, List.set_cons_succ, i64_w, i32_w]
                                          rfl
                                        refine take_ (i := 9) (N := some 89) (v := ?_) (a' := ?_) #[true, true, true, true, true, true, true, true, true, true, false, false] rfl rfl (take_ofW HT_.out HW_.out (by kernel_rfl)) (fun _ _ _ h => h) (Or.inl ⟨by rfl, ?_⟩) hHeld ?_ ?_
                                        rotate_left
                                        · rintro w' ⟨s0, s1, s2, s3⟩
                                          go_simp
                                          with_reducible rfl
                                        rotate_left
                                        · simp only [Act.put, List.setIfInBounds_toArray, List.set_cons_zero, List.set_cons_succ, i64_w, i32_w]
                                          rfl
                                        refine pure_ (i := 10) (N := some 90) (v := ?_) (a' := ?_) #[true, true, true, true, true, true, true, true, true, true, true, false] rfl rfl (any_of HT_.out (by kernel_rfl)) (fun _ _ _ h => h) (Or.inl ⟨by rfl, ?_⟩) ?_ ?_
                                        rotate_left
                                        · intro w'
                                          go_simp
                                          with_reducible rfl
                                        rotate_left
                                        · simp only [Act.put, List.setIfInBounds_toArray, List.set_cons_zero, List.set_cons_succ, i64_w, i32_w]
                                          rfl
                                        refine pure_ (i := 11) (N := some 91) (v := ?_) (a' := ?_) #[true, true, true, true, true, true, true, true, true, true, true, true] rfl rfl (any_of HT_.out (by kernel_rfl)) (fun _ _ _ h => h) (Or.inl ⟨by rfl, ?_⟩) ?_ ?_
                                        rotate_left
                                        · intro w'
                                          go_simp
                                          with_reducible rfl
                                        rotate_left
                                        · simp only [Act.put, List.setIfInBounds_toArray, List.set_cons_zero, List.set_cons_succ, i64_w, i32_w]
                                          rfl
                                        refine done_ (done_of HT_.out (by kernel_rfl)) ?_
                                        try go_wp2
                                        go_roundg kj21
                                        case measure => have := HJ3.out; have := HK2.out; have := HJ21.out; omega
                                        case rel => exact ⟨(wrap64 (x11_2 + 1)), (wrap64 (x12_2 + 1)), (by first | rfl | (simp; done) | (simp [*]; done)), (by first | rfl | (simp; done) | (simp [*]; done)), H', ⟨by have := HJ3.out; have := HK2.out; have := HJ21.out; omega⟩, ⟨by (with_reducible repeat (first | apply Kd.R_alloc | apply Kd.R_drewN | apply Kd.R_drew)); exact Kd.R_mono HO_7.out (fun _ hk => hk.1)⟩, ⟨by (with_reducible repeat (first | apply Kd.R_alloc | apply Kd.R_drewN | apply Kd.R_drew)); exact Kd.R_mono HO_9.out (fun _ hk => hk.1)⟩, ⟨by repeat (first | (with_reducible first | exact HB.out | apply below_alloc | apply pw_below_drewN | apply below_drew1 | refine below_set ?_ GE224.out) | exact HB.out)⟩⟩
                                    · rw [if_neg c40] at H
                                      exact absurd H (by simp)
                                  · rw [if_neg c39] at H
                                    exact absurd H (by simp)
                        · rw [if_neg c21] at H
                          exact absurd H (by simp)
                      · rw [if_neg c20] at H
                        exact absurd H (by simp)
                    · rw [if_neg c19] at H
                      have c19b0 : ((((rd_T37 t217 x12_2).f0).size : Int) == (wrap64 (ji9 + 1))) = false := beq_eq_false_iff_ne.mpr c19
                      have c19b1 : ((((rd_T37 t217 x12_2).f0).size : Int) != (wrap64 (ji9 + 1))) = true := bne_iff_ne.mpr c19
                      obtain rfl := Option.some.inj H
                      obtain ⟨Ao46, co46, eo46⟩ := Kd.R_slice HO_9.out
                      subst eo46
                      have p221 : 0 ≤ (x12_2 : Int) := of_decide_eq_true (by first | (with_reducible assumption) | assumption)
                      have q221 : x12_2 < (t217.length : Int) := of_decide_eq_true (by first | (with_reducible assumption) | assumption)
                      obtain ⟨ad221, e221, hx221_0, hx221_1⟩ := at_T37 (Kd.R_reads' HO_9.out).2.2 x12_2 p221 q221
                      cases e221
                      replace p221 := eq_true p221
                      replace q221 := eq_true q221
                      go_wp2
                      go_ret
                      exact ⟨by first | rfl | (simp [errW_none, errW_some] <;> rfl) | (simp only [← hji9]; first | rfl | (simp [errW_none, errW_some] <;> rfl)) | (simp [*, errW_none, errW_some] <;> rfl), by repeat (first | (with_reducible first | exact HB.out | apply below_alloc | apply pw_below_drewN | apply below_drew1) | exact HB.out)⟩
                  · rw [if_neg c18] at H
                    exact absurd H (by simp)
                · rw [if_neg c17] at H
                  have c17b0 : decide (x12_2 < (t217.length : Int)) = false := decide_eq_false c17
                  clear c17
                  by_cases c47 : t207 = true
                  · subst c47
                    have H1 : (some (x11_2 == (t213.length : Int))) = some r := by rw [if_pos rfl] at H; exact H
                    clear H
                    have H := H1
                    clear H1
                    obtain rfl := Option.some.inj H
                    obtain ⟨Ao48, co48, eo48⟩ := Kd.R_slice HO_9.out
                    subst eo48
                    obtain ⟨Ao49, co49, eo49⟩ := Kd.R_slice HO_7.out
                    subst eo49
                    go_wp2
                    go_ret
                    exact ⟨by first | rfl | (simp [errW_none, errW_some] <;> rfl) | (simp only [← hji9]; first | rfl | (simp [errW_none, errW_some] <;> rfl)) | (simp [*, errW_none, errW_some] <;> rfl), by repeat (first | (with_reducible first | exact HB.out | apply below_alloc | apply pw_below_drewN | apply below_drew1) | exact HB.out)⟩
                  · replace c47 := Bool.eq_false_iff.mpr c47
                    subst c47
                    have H1 : (some false) = some r := by rw [if_neg (show ¬ (false = true) by decide)] at H; exact H
                    clear H
                    have H := H1
                    clear H1
                    obtain rfl := Option.some.inj H
                    obtain ⟨Ao50, co50, eo50⟩ := Kd.R_slice HO_9.out
                    subst eo50
                    go_wp2
                    go_ret
                    exact ⟨by first | rfl | (simp [errW_none, errW_some] <;> rfl) | (simp only [← hji9]; first | rfl | (simp [errW_none, errW_some] <;> rfl)) | (simp [*, errW_none, errW_some] <;> rfl), by repeat (first | (with_reducible first | exact HB.out | apply below_alloc | apply pw_below_drewN | apply below_drew1) | exact HB.out)⟩
          · rw [if_neg c11] at H
            exact absurd H (by simp)
        · rw [if_neg c10] at H
          exact absurd H (by simp)

end Go.Proofs.Ytnlekganlliikaa.X
-- part XTabMath
namespace Go.Proofs.Ytnlekganlliikaa.X
open Go.RowKit Go.Proofs.YtnlekganlliikaaW.PrintWords Go.Proofs.YtnlekganlliikaaW.PrintLast Go.Proofs.YtnlekganlliikaaW.PrintMore
set_option linter.unusedVariables false
set_option linter.unusedSimpArgs false
/-- Where the next pairing is. -/
def nextM : List Int → Nat → Nat
  | [], n => n
  | m :: t, n => if 0 ≤ m then m.toNat else nextM t n
/-- Where the lines ahead of a line begin, if any may be there. -/
def fromM (ms : List Int) : Nat → Option Nat
  | 0 => some 0
  | q + 1 => if 0 ≤ ms.getD q (-1) then some ((ms.getD q (-1)).toNat + 1) else none
/-- The parent's lines ahead of a line of the result. -/
def segL (p : List ByteArray) (ms : List Int) (q : Nat) : List ByteArray :=
  match fromM ms q with
  | none => []
  | some a => (p.take (nextM (ms.drop q) p.length)).drop a
def updSeg (N col : Nat) (p : List ByteArray) (ms : List Int) (lost : Nat → Option (List (List ByteArray))) (q : Nat) : Option (List (List ByteArray)) :=
  if segL p ms q = [] then lost q else some (((lost q).getD (List.replicate N [])).set col (segL p ms q))
theorem Fits.next {list : List ByteArray} : ∀ {ms : List Int} {ss : List ByteArray} {lo : Nat}, Fits list ms ss lo → lo ≤ nextM ms list.length ∧ nextM ms list.length ≤ list.length
  | [], [], lo, h => ⟨h, Nat.le_refl _⟩
  | [], _ :: _, lo, h => h.elim
  | m :: ms, s :: ss, lo, h => by
    rcases h with ⟨rfl, h⟩ | ⟨k, rfl, h1, h2, h3⟩
    · rw [nextM, if_neg (by decide)]; exact h.next
    · have := (List.getElem?_eq_some_iff.1 h2).1
      rw [nextM, if_pos (by omega), Int.toNat_natCast]; omega
  | _ :: _, [], lo, h => h.elim
theorem Fits.at_ {list : List ByteArray} : ∀ {ms : List Int} {ss : List ByteArray} {lo : Nat}, Fits list ms ss lo → ∀ q, q < ms.length → (ms.getD q (-1) = -1) ∨ ∃ k : Nat, ms.getD q (-1) = (k : Int) ∧ list[k]? = ss[q]? ∧ k < list.length ∧ k + 1 ≤ nextM (ms.drop (q + 1)) list.length
  | [], ss, lo, h, q, hq => absurd hq (by simp)
  | m :: ms, s :: ss, lo, h, 0, hq => by
    rcases h with ⟨rfl, h⟩ | ⟨k, rfl, h1, h2, h3⟩
    · exact .inl rfl
    · exact .inr ⟨k, rfl, by rw [h2]; rfl, (List.getElem?_eq_some_iff.1 h2).1, h3.next.1⟩
  | m :: ms, s :: ss, lo, h, q + 1, hq => by
    have hq' : q < ms.length := by simpa using hq
    rcases h with ⟨rfl, h⟩ | ⟨k, rfl, h1, h2, h3⟩
    · exact h.at_ q hq'
    · exact h3.at_ q hq'
  | _ :: _, [], lo, h, q, hq => h.elim
theorem Fits.drop_next {list : List ByteArray} : ∀ {ms : List Int} {ss : List ByteArray} {lo : Nat}, Fits list ms ss lo → ∀ q, nextM (ms.drop q) list.length ≤ list.length
  | ms, ss, lo, h, 0 => h.next.2
  | [], ss, lo, h, q + 1 => Nat.le_refl _
  | m :: ms, s :: ss, lo, h, q + 1 => by
    rcases h with ⟨rfl, h⟩ | ⟨k, rfl, h1, h2, h3⟩
    · exact h.drop_next q
    · exact h3.drop_next q
  | _ :: _, [], lo, h, q + 1 => h.elim
theorem nextM_skip {ms : List Int} {L : Nat} (last : Nat) : ∀ (n : Nat), last + n ≤ ms.length → (∀ j, last ≤ j → j < last + n → ms.getD j (-1) < 0) → nextM (ms.drop last) L = nextM (ms.drop (last + n)) L
  | 0, _, _ => rfl
  | n + 1, hl, hn => by
    rw [nextM_skip last n (by omega) (fun j h1 h2 => hn j h1 (by omega)), dropCons (i := last + n) (by omega), nextM]
    have := hn (last + n) (by omega) (by omega)
    rw [show ms.getD (last + n) (-1) = ms[last + n] by simp [List.getD_eq_getElem?_getD, List.getElem?_eq_getElem (show last + n < ms.length by omega)]] at this
    rw [if_neg (by omega)]; rfl
theorem fromM_none {ms : List Int} {last i q : Nat} (h : ∀ j, last ≤ j → j < i → ms.getD j (-1) < 0) (h1 : last < q) (h2 : q ≤ i ∨ ms.length ≤ i) : fromM ms q = none := by
  obtain ⟨q, rfl⟩ : ∃ q', q = q' + 1 := ⟨q - 1, by omega⟩
  rw [fromM]
  have : ms.getD q (-1) < 0 := by
    by_cases hq : q < i
    · exact h q (by omega) hq
    · rw [List.getD_eq_getElem?_getD, List.getElem?_eq_none (by omega)]; decide
  rw [if_neg (by omega)]
theorem segL_none {p : List ByteArray} {ms : List Int} {q : Nat} (h : fromM ms q = none) : segL p ms q = [] := by rw [segL, h]
theorem loseAt_eq {N col : Nat} {p : List ByteArray} {ms : List Int} {lost : Nat → Option (List (List ByteArray))} {at_ last : Nat} (hF : nextM (ms.drop last) p.length ≤ p.length) (ha : fromM ms last = some at_) (q : Nat) :
    loseAt N col p lost (nextM (ms.drop last) p.length) at_ last q = if q = last then updSeg N col p ms lost q else lost q := by
  have hs : segL p ms last = (p.take (nextM (ms.drop last) p.length)).drop at_ := by rw [segL, ha]
  by_cases hq : q = last
  · subst hq
    rw [if_pos rfl, updSeg, hs, loseAt]
    by_cases h : at_ < nextM (ms.drop q) p.length
    · have hne : ¬ (p.take (nextM (ms.drop q) p.length)).drop at_ = [] := by rw [List.drop_eq_nil_iff, List.length_take]; omega
      rw [if_pos h, if_neg hne]
      exact if_pos rfl
    · rw [if_neg h, if_pos (List.drop_eq_nil_iff.2 (by simp; omega))]
  · rw [if_neg hq, loseAt]
    split
    · simp [hq]
    · rfl
theorem pairGo_eq {N col : Nat} {p ss : List ByteArray} {ms : List Int} (hF : Fits p ms ss 0) : ∀ (t : List Int) (i at_ last : Nat) (lost : Nat → Option (List (List ByteArray))), ms.drop i = t → last ≤ i → i ≤ ms.length → fromM ms last = some at_ → (∀ j, last ≤ j → j < i → ms.getD j (-1) < 0) →
    ∀ q, pairGo N col p t i at_ last lost q = if q < last then lost q else updSeg N col p ms lost q
  | [], i, at_, last, lost, hd, hli, hi, ha, hn, q => by
    have hlen : ms.length ≤ i := List.drop_eq_nil_iff.1 hd
    have hnx : nextM (ms.drop last) p.length = p.length := by
      rw [nextM_skip last (i - last) (by omega) (fun j a b => hn j a (by omega)), show last + (i - last) = i by omega, hd]; rfl
    have := loseAt_eq (N := N) (col := col) (lost := lost) (by rw [hnx]; exact Nat.le_refl _) ha q
    rw [hnx] at this
    rw [pairGo, this]
    by_cases h1 : q < last
    · rw [if_neg (by omega), if_pos h1]
    · rw [if_neg h1]
      by_cases h2 : q = last
      · rw [if_pos h2]
      · rw [if_neg h2, updSeg, if_pos (segL_none (fromM_none hn (by omega) (.inr hlen)))]
  | m :: t, i, at_, last, lost, hd, hli, hi, ha, hn, q => by
    have hil : i < ms.length := by
      apply Classical.byContradiction
      intro h
      rw [List.drop_of_length_le (by omega)] at hd
      cases hd
    rw [dropCons hil] at hd
    have hm : ms[i] = m := (List.cons.inj hd).1
    have ht : ms.drop (i + 1) = t := (List.cons.inj hd).2
    have hg : ms.getD i (-1) = m := by rw [← hm]; simp [List.getD_eq_getElem?_getD, List.getElem?_eq_getElem hil]
    rw [pairGo]
    by_cases h0 : 0 ≤ m
    · rw [if_pos h0, pairGo_eq hF t (i + 1) (m.toNat + 1) (i + 1) _ ht (Nat.le_refl _) hil (by rw [fromM, hg, if_pos h0]) (fun j a b => by omega) q]
      have hnx : nextM (ms.drop last) p.length = m.toNat := by
        rw [nextM_skip last (i - last) (by omega) (fun j a b => hn j a (by omega)), show last + (i - last) = i by omega, dropCons hil, nextM, hm, if_pos h0]
      have := loseAt_eq (N := N) (col := col) (lost := lost) (hF.drop_next last) ha
      rw [hnx] at this
      by_cases h1 : q < last
      · rw [if_pos (by omega), if_pos h1, this q, if_neg (by omega)]
      · rw [if_neg h1]
        by_cases h2 : q = last
        · rw [if_pos (by omega), this q, if_pos h2]
        · by_cases h3 : q < i + 1
          · rw [if_pos h3, this q, if_neg h2, updSeg, if_pos (segL_none (fromM_none hn (by omega) (.inl (by omega))))]
          · rw [if_neg h3, updSeg, updSeg, this q, if_neg h2]
    · rw [if_neg h0, pairGo_eq hF t (i + 1) at_ last lost ht (by omega) hil ha (fun j a b => by
        by_cases hj : j = i
        · subst hj; rw [hg]; omega
        · exact hn j a (by omega)) q]
/-- The parents' lines ahead of a line of the result. -/
def segsL (result : List ByteArray) (ps : List (List ByteArray)) (q : Nat) : List (List ByteArray) := ps.map (fun p => segL p (matchS result p) q)
theorem segsL_length (result : List ByteArray) (ps : List (List ByteArray)) (q : Nat) : (segsL result ps q).length = ps.length := List.length_map ..
theorem empties {ls : List (List ByteArray)} (h : ls.all (·.isEmpty) = true) : ls = List.replicate ls.length [] := by
  induction ls with
  | nil => rfl
  | cons l t ih =>
    simp only [List.all_cons, Bool.and_eq_true, List.isEmpty_iff] at h
    rw [List.length_cons, List.replicate_succ, h.1, ← ih h.2]
theorem lostK_eq (result : List ByteArray) (parents : List (List ByteArray)) (q : Nat) : ∀ k, k ≤ parents.length → lostK result parents k q = if (segsL result (parents.take k) q).all (·.isEmpty) = true then none else some (segsL result (parents.take k) q ++ List.replicate (parents.length - k) [])
  | 0, _ => by
    rw [List.take_zero]; rfl
  | k + 1, hk => by
    have hkl : k < parents.length := by omega
    have ih := lostK_eq result parents q k (by omega)
    have hpg : pairGo parents.length k (parents.getD k []) (matchS result (parents.getD k [])) 0 0 0 (lostK result parents k) q = _ := pairGo_eq (matchS_fits result _) _ 0 0 0 _ rfl (Nat.le_refl _) (Nat.zero_le _) rfl (fun j a b => by omega) q
    rw [lostK_succ _ _ hkl, hpg, if_neg (by omega), updSeg]
    have hp : parents.getD k [] = parents[k] := by simp [hkl]
    have hs : segsL result (parents.take (k + 1)) q = segsL result (parents.take k) q ++ [segL (parents.getD k []) (matchS result (parents.getD k [])) q] := by
      rw [← List.take_append_getElem hkl, segsL, List.map_append, hp]; rfl
    rw [hs]
    obtain ⟨S, hS⟩ : ∃ S, segsL result (parents.take k) q = S := ⟨_, rfl⟩
    obtain ⟨s, hs1⟩ : ∃ s, segL (parents.getD k []) (matchS result (parents.getD k [])) q = s := ⟨_, rfl⟩
    have hSl : S.length = k := by rw [← hS, segsL_length, List.length_take]; omega
    rw [hS] at ih
    rw [hS, hs1]
    have hrep : List.replicate (parents.length - k) ([] : List ByteArray) = [] :: List.replicate (parents.length - (k + 1)) [] := by
      rw [show parents.length - k = (parents.length - (k + 1)) + 1 by omega, List.replicate_succ]
    by_cases e : s = []
    · subst e
      rw [if_pos rfl, ih, List.all_append]
      have : ([[]] : List (List ByteArray)).all (·.isEmpty) = true := rfl
      rw [this, Bool.and_true, hrep]
      simp
    · have hne : (S ++ [s]).all (·.isEmpty) = false := by
        rw [List.all_append]
        have : ([s] : List (List ByteArray)).all (·.isEmpty) = false := by
          cases s with
          | nil => exact absurd rfl e
          | cons a b => rfl
        rw [this, Bool.and_false]
      rw [if_neg e, hne, if_neg (by decide)]
      have hget : (lostK result parents k q).getD (List.replicate parents.length []) = S ++ List.replicate (parents.length - k) [] := by
        rw [ih]
        by_cases ha : S.all (·.isEmpty) = true
        · rw [if_pos ha, Option.getD_none]
          have := empties ha
          rw [hSl] at this
          rw [this, List.replicate_append_replicate]
          congr 1; omega
        · rw [if_neg ha]; rfl
      rw [hget, hrep, List.set_append, if_neg (by omega), hSl, Nat.sub_self, List.set_cons_zero, List.append_assoc]; rfl
theorem lostAll_eq (result : List ByteArray) (parents : List (List ByteArray)) (q : Nat) : lostAll result parents q = if (segsL result parents q).all (·.isEmpty) = true then none else some (segsL result parents q) := by
  have := lostK_eq result parents q parents.length (Nat.le_refl _)
  rw [List.take_length, Nat.sub_self, List.replicate_zero, List.append_nil, lostK, List.take_length] at this
  exact this
theorem rowsOf_empties {ls : List (List ByteArray)} (h : ls.all (·.isEmpty) = true) : rowsOf ls = [] := by
  have h1 := rowsOf_le ls
  have h2 : sumLen ls = 0 := by
    rw [empties h]; simp [sumLen]
  rw [h2] at h1
  exact List.length_eq_zero_iff.1 (by omega)
theorem lostRows_eq (result : List ByteArray) (parents : List (List ByteArray)) (q : Nat) : lostRows (lostAll result parents q) = (rowsOf (segsL result parents q)).map (rowOut parents.length) := by
  rw [lostAll_eq]
  by_cases h : (segsL result parents q).all (·.isEmpty) = true
  · rw [if_pos h, lostRows, rowsOf_empties h]; rfl
  · rw [if_neg h, lostRows, segsL_length]
def marksU (result : List ByteArray) (ps : List (List ByteArray)) (k : Nat) : List UInt8 := ps.map (fun p => if 0 ≤ (matchS result p).getD k 0 then 32 else 43)
theorem markS_bs (m : Int) : markS m = bs [if 0 ≤ m then 32 else 43] := by
  unfold markS
  split <;> rfl
theorem marksK_eq (result : List ByteArray) (parents : List (List ByteArray)) (q : Nat) (hq : q < result.length) : ∀ k, k ≤ parents.length → (marksK result parents k).getD (q + 1) ByteArray.empty = bs (marksU result (parents.take k) q)
  | 0, _ => by
    show ((⟨#[32]⟩ :: List.replicate result.length ByteArray.empty).getD (q + 1) ByteArray.empty) = _
    rw [List.getD_cons_succ]
    simp [List.getD_eq_getElem?_getD, List.getElem?_replicate, hq, marksU]
    rfl
  | k + 1, hk => by
    have hkl : k < parents.length := by omega
    have hp : parents.getD k [] = parents[k] := by simp [hkl]
    have hM := (marksK_ok result parents k (by omega)).1
    have ih := marksK_eq result parents q hq k (by omega)
    rw [marksK_succ _ _ hkl, marksF, List.getD_cons_succ]
    have hml := matchS_length result (parents.getD k [])
    have h1 : q < (marksK result parents k).tail.length := by simp [hM]; exact hq
    have h2 : q < (matchS result (parents.getD k [])).length := by rw [hml]; exact hq
    have h3 : (marksK result parents k).tail[q] = (marksK result parents k).getD (q + 1) ByteArray.empty := by
      rw [List.getElem_tail]; simp [List.getD_eq_getElem?_getD, List.getElem?_eq_getElem (show q + 1 < (marksK result parents k).length by omega)]
    have h4 : (matchS result (parents.getD k [])).getD q 0 = (matchS result (parents.getD k []))[q] := by rw [List.getD_eq_getElem?_getD, List.getElem?_eq_getElem h2]; rfl
    rw [List.getD_eq_getElem?_getD, List.getElem?_zipWith, List.getElem?_eq_getElem h1, List.getElem?_eq_getElem h2]
    show (marksK result parents k).tail[q] ++ markS (matchS result (parents.getD k []))[q] = _
    rw [h3, ih, markS_bs, bs_append, ← List.take_append_getElem hkl, marksU, marksU, List.map_append, ← hp, ← h4]; rfl
theorem marksAll_eq (result : List ByteArray) (parents : List (List ByteArray)) (q : Nat) (hq : q < result.length) : (marksAll result parents).getD (q + 1) ByteArray.empty = bs (marksU result parents q) := by
  have := marksK_eq result parents q hq parents.length (Nat.le_refl _)
  rwa [marksK, List.take_length] at this
/-- The rows ahead of a line of the result. -/
def segRows (result : List ByteArray) (parents : List (List ByteArray)) (q : Nat) : List ApiRow := (rowsOf (segsL result parents q)).map (rowOut parents.length)
theorem tableRows_succ (result : List ByteArray) (parents : List (List ByteArray)) (k : Nat) (hk : k < result.length) : tableRows result parents (k + 1) = tableRows result parents k ++ segRows result parents k ++ [⟨bs (marksU result parents k), result[k]⟩] := by
  rw [tableRows, lostRows_eq, marksAll_eq _ _ _ hk, show result.getD k ByteArray.empty = result[k] by simp [hk]]; rfl
theorem tableAll_eq (result : List ByteArray) (parents : List (List ByteArray)) : tableAll result parents = tableRows result parents result.length ++ segRows result parents result.length := by
  rw [tableAll, lostRows_eq]; rfl
/-- What stands ahead of a line is part of the parent. -/
theorem segL_length_le (p : List ByteArray) (ms : List Int) (q : Nat) : (segL p ms q).length ≤ p.length := by
  unfold segL
  split
  · simp
  · simp; omega
end Go.Proofs.Ytnlekganlliikaa.X
-- part XTabRows
namespace Go.Proofs.Ytnlekganlliikaa.X
open Go.RowKit Go.Proofs.YtnlekganlliikaaW.PrintWords Go.Proofs.YtnlekganlliikaaW.PrintLast Go.Proofs.YtnlekganlliikaaW.PrintMore
set_option linter.unusedVariables false
set_option linter.unusedSimpArgs false
theorem awake20 : sennitlaw20_awake.f = some true := by decide +kernel
theorem index45_cases (u : List UInt8) : (¬ (45 : UInt8) ∈ u ∧ Lib.indexByte u 45 = -1) ∨ ((45 : UInt8) ∈ u ∧ 0 ≤ Lib.indexByte u 45) := by
  induction u with
  | nil => left; simp [Lib.indexByte]
  | cons x xs ih =>
    simp only [Lib.indexByte, List.mem_cons]
    by_cases e : x = 45
    · right; simp [e]
    · have e' : (x == 45) = false := by simp [e]
      have e2 : ¬ (45 : UInt8) = x := fun h => e h.symm
      rw [e']
      rcases ih with ⟨h1, h2⟩ | ⟨h1, h2⟩
      · left; simp [h1, h2, e2]
      · right
        refine ⟨.inr h1, ?_⟩
        rw [if_neg (by decide), if_neg (by simp; omega)]
        omega
theorem index45 (u : List UInt8) : decide (0 ≤ Lib.indexByte u 45) = decide ((45 : UInt8) ∈ u) := by
  rw [decide_eq_decide]
  rcases index45_cases u with ⟨h1, h2⟩ | ⟨h1, h2⟩
  · simp [h1, h2]
  · simp [h1, h2]
theorem lostB_mem (s : ByteArray) : lostB s = decide ((45 : UInt8) ∈ s.data.toList) := index45 _
section
variable {R : List ApiRow}
end
end Go.Proofs.Ytnlekganlliikaa.X
-- part XTabTells
namespace Go.Proofs.Ytnlekganlliikaa.X
open Go.RowKit Go.Proofs.YtnlekganlliikaaW.PrintWords Go.Proofs.YtnlekganlliikaaW.PrintLast Go.Proofs.YtnlekganlliikaaW.PrintMore
set_option linter.unusedVariables false
set_option linter.unusedSimpArgs false
theorem byte10 (c : UInt8) : ((c.toNat : Int) = 10) ↔ c = 10 := by
  constructor
  · intro h
    have : c.toNat = 10 := by omega
    exact UInt8.toNat_inj.1 this
  · rintro rfl; rfl
theorem index10 (u : List UInt8) : (¬ (10 : UInt8) ∈ u ∧ Lib.indexByte u 10 = -1) ∨ (∃ a b, u = a ++ 10 :: b ∧ ¬ (10 : UInt8) ∈ a ∧ Lib.indexByte u 10 = (a.length : Int)) := by
  induction u with
  | nil => left; simp [Lib.indexByte]
  | cons x xs ih =>
    simp only [Lib.indexByte]
    by_cases e : x = 10
    · right; exact ⟨[], xs, by rw [e]; rfl, by simp, by simp [e]⟩
    · have e' : (x == 10) = false := by simp [e]
      have e2 : ¬ (10 : UInt8) = x := fun h => e h.symm
      rw [e']
      rcases ih with ⟨h1, h2⟩ | ⟨a, b, h0, h1, h2⟩
      · left; simp [h1, h2, e2]
      · right
        refine ⟨x :: a, b, by rw [h0]; rfl, by simp [e2, h1], ?_⟩
        rw [if_neg (by decide), if_neg (by simp; omega), h2]
        simp
theorem closed_eq (s : ByteArray) : lineClosed s = (decide (s.data.toList.count 10 = 1) && decide (s.data.toList.getLast? = some 10)) := by
  have hs := sizeLen s
  rw [lineClosed, ← Bool.decide_and, decide_eq_decide]
  rcases index10 s.data.toList with ⟨h1, h2⟩ | ⟨a, b, h0, h1, h2⟩
  · rw [h2, List.count_eq_zero.2 h1]; omega
  · rw [h2, hs, h0, List.count_append, List.count_eq_zero.2 h1, List.count_cons_self, List.length_append, List.length_cons]
    cases b with
    | nil => simp
    | cons y t =>
      rw [List.getLast?_append, List.getLast?_cons_cons]
      constructor
      · intro ⟨_, h⟩; rw [List.length_cons] at h; omega
      · rintro ⟨h3, h4⟩
        have h5 : (y :: t).getLast? = some 10 := by
          cases hg : (y :: t).getLast? with
          | none => simp at hg
          | some z => rw [hg] at h4; exact h4
        have := List.count_pos_iff.2 (List.mem_of_getLast? h5)
        omega
theorem open_eq (s : ByteArray) : lineOpen s = (decide (0 < s.size) && decide (s.data.toList.count 10 = 0)) := by
  rw [lineOpen, ← Bool.decide_and, decide_eq_decide, List.count_eq_zero]
  rcases index10 s.data.toList with ⟨h1, h2⟩ | ⟨a, b, h0, h1, h2⟩
  · rw [h2]; simp [h1]
  · rw [h2]
    have : (10 : UInt8) ∈ s.data.toList := by rw [h0]; simp
    constructor
    · rintro ⟨h, _⟩; omega
    · rintro ⟨_, h⟩; exact absurd this h
theorem ref_feeds_l0 (s : ByteArray) (hs : s.size ≤ 1000000000) : ∀ (r i k : Nat) (n : Nat), i + r = s.size → n ≤ i → r + 1 ≤ k → sennitref01_feeds.l0 k s (n : Int) (i : Int) = some (((n + (s.data.toList.drop i).count 10 : Nat) : Int))
  | 0, i, k + 1, n, hi, hn, _ => by
    rw [sennitref01_feeds.l0, if_neg (by omega), List.drop_of_length_le (by rw [← sizeLen]; omega)]
    simp
  | r + 1, i, k + 1, n, hi, hn, hk => by
    have hd := dropCons (l := s.data.toList) (i := i) (by rw [← sizeLen]; omega)
    rw [sennitref01_feeds.l0, if_pos (by omega), if_pos (by omega), btN (by omega), hd]
    obtain ⟨c, hc⟩ : ∃ c, s.data.toList[i]'(by rw [← sizeLen]; omega) = c := ⟨_, rfl⟩
    rw [hc, gw1 (i := i) (by omega), gw1 (i := n) (by omega)]
    by_cases e : c = 10
    · rw [if_pos ((byte10 c).2 e), e, List.count_cons_self, ref_feeds_l0 s hs r (i + 1) k (n + 1) (by omega) (by omega) (by omega)]
      congr 1; omega
    · rw [if_neg (fun h => e ((byte10 c).1 h)), List.count_cons_of_ne e, ref_feeds_l0 s hs r (i + 1) k n (by omega) (by omega) (by omega)]
theorem ref_feeds (s : ByteArray) (hs : s.size ≤ 1000000000) (k : Nat) (hk : s.size + 1 ≤ k) : sennitref01_feeds.f k s = some ((s.data.toList.count 10 : Nat) : Int) := by
  have := ref_feeds_l0 s hs s.size 0 k 0 (by omega) (by omega) hk
  simpa [sennitref01_feeds.f] using this
theorem last_idx (s : ByteArray) (h : 0 < s.size) : s.data.toList.getLast? = some (s.data.toList[s.size - 1]'(by rw [← sizeLen]; omega)) := by
  rw [List.getLast?_eq_getElem?, List.getElem?_eq_getElem (by simp at h ⊢; omega)]
  simp
theorem ref_line (s : ByteArray) (hs : s.size ≤ 1000000000) (k : Nat) (hk : s.size + 1 ≤ k) : sennitref01_Line.f k s = some (lineClosed s) := by
  rw [sennitref01_Line.f, ref_feeds s hs k hk, Option.bind_some, closed_eq]
  by_cases h1 : s.data.toList.count 10 = 1
  · have hp : 0 < s.size := by
      rw [sizeLen]
      exact List.length_pos_iff.2 (fun e => by rw [e] at h1; simp at h1)
    have ew : wrap64 ((s.size : Int) - 1) = ((s.size - 1 : Nat) : Int) := by rw [gw (by omega) (by omega)]; omega
    rw [if_pos (by omega), ew, if_pos (by omega), if_pos (by omega), btN (by omega), last_idx s hp]
    congr 1
    rw [decide_eq_true h1, Bool.true_and, Bool.eq_iff_iff]
    simp only [beq_iff_eq, decide_eq_true_eq, Option.some.injEq, byte10]
  · rw [if_neg (by omega), decide_eq_false h1]
    rfl
theorem ref_may_l0 (l : List ByteArray) (hl : l.length ≤ 1000000) (M : Nat) (hM : M ≤ 1000000) (hs : ∀ s ∈ l, s.size ≤ M) : ∀ (r i k : Nat), i + r = l.length → r + M + 2 ≤ k → sennitref01_May.l0 k l (i : Int) = some (mayL (l.drop i))
  | 0, i, k + 1, hi, _ => by
    rw [sennitref01_May.l0, if_neg (by omega), List.drop_of_length_le (by omega)]
    rfl
  | r + 1, i, k + 1, hi, hk => by
    have hil : i < l.length := by omega
    have hd := dropCons hil
    have hz : l[i].size ≤ M := hs _ (List.getElem_mem _)
    have ih := ref_may_l0 l hl M hM hs r (i + 1) k (by omega) (by omega)
    have hln := ref_line l[i] (by omega) k (by omega)
    have hfd := ref_feeds l[i] (by omega) k (by omega)
    rw [sennitref01_May.l0, if_pos (by omega), rdOfN hil, gw1 (by omega), gw (x := (l.length : Int) - 1) (by omega) (by omega), hln, hfd, ih, hd]
    have hm : mayL (l[i] :: l.drop (i + 1)) = ((lineClosed l[i] || ((decide (0 < l[i].size) && decide (l[i].data.toList.count 10 = 0)) && (l.drop (i + 1)).isEmpty)) && mayL (l.drop (i + 1))) := by
      rw [mayL, open_eq]
    have hnil : ((l.drop (i + 1)).isEmpty = true) ↔ ((i : Int) = (l.length : Int) - 1) := by
      rw [List.isEmpty_iff, List.drop_eq_nil_iff]; omega
    rw [hm]
    obtain ⟨m, hm⟩ : ∃ m, mayL (l.drop (i + 1)) = m := ⟨_, rfl⟩
    obtain ⟨c, hc⟩ : ∃ c, lineClosed l[i] = c := ⟨_, rfl⟩
    rw [hm, hc]
    simp only [Option.bind_some]
    clear hm hln hfd ih hd hc
    by_cases e1 : (i : Int) = (l.length : Int) - 1
    · rw [if_pos e1, if_pos (by omega), hnil.2 e1, Bool.and_true]
      by_cases e2 : 0 < l[i].size
      · rw [if_pos (by omega), decide_eq_true e2, Bool.true_and]
        by_cases e3 : l[i].data.toList.count 10 = 0
        · rw [if_pos (by omega), decide_eq_true e3]
          cases c <;> cases m <;> rfl
        · rw [if_neg (by omega), decide_eq_false e3]
          cases c <;> cases m <;> rfl
      · rw [if_neg (by omega), decide_eq_false e2]
        cases c <;> cases m <;> rfl
    · have : (l.drop (i + 1)).isEmpty = false := by
        cases hh : (l.drop (i + 1)).isEmpty
        · rfl
        · exact absurd (hnil.1 hh) e1
      rw [if_neg e1, if_pos (by omega), this, Bool.and_false]
      cases c <;> cases m <;> rfl
theorem ref_May01 (l : List ByteArray) (hl : l.length ≤ 1000000) (hs : ∀ s ∈ l, s.size ≤ 1000000) : Gives (fun k => sennitref01_May.f k l) (mayL l) :=
  ⟨l.length + 1000000 + 2, fun k hk => by
    have := ref_may_l0 l hl 1000000 (Nat.le_refl _) hs l.length 0 k (by omega) hk
    simpa [sennitref01_May.f] using this⟩

def FewT (result : List ByteArray) (ls : List (List ByteArray)) : Prop := (result.length ≤ 16 ∧ ∀ s ∈ result, s.size ≤ 100) ∧ ls.length ≤ 6 ∧ ∀ l ∈ ls, l.length ≤ 16 ∧ ∀ s ∈ l, s.size ≤ 100
theorem ref_Few20 (result : List ByteArray) (ls : List (List ByteArray)) : ∃ b, Gives (fun k => sennitref20_Few.f k result ls) b ∧ (b = true → FewT result ls) := by
  have he : Gives (fun k => sennitref01_Few.f k result 16) (fewB result 16) := ref_few01 result 16 (by omega)
  have hlast : ∀ i : Nat, (i = ls.length ∨ i = 7) → (∀ l ∈ ls.take i, fewB l 16 = true) → ∃ b, Gives (fun k => sennitref20_Few.j1 k result ls (i : Int) false) b ∧ (b = true → fewB result 16 = true ∧ ls.length ≤ 6 ∧ ∀ l ∈ ls, fewB l 16 = true) := by
    intro i hi hP
    refine ⟨fewB result 16 && decide ((ls.length : Int) ≤ 6), Gives.last he fun k hk => ?_, fun h => ?_⟩
    · show sennitref20_Few.j1 (k + 1) result ls (i : Int) false = _
      rw [sennitref20_Few.j1, if_neg (by decide), hk, Option.bind_some]
      cases fewB result 16 <;> rfl
    · rw [Bool.and_eq_true] at h
      have h6 := of_decide_eq_true h.2
      rw [List.take_of_length_le (by omega)] at hP
      exact ⟨h.1, by omega, hP⟩
  have hmain : ∀ (r i : Nat), i + r = min ls.length 7 → (∀ l ∈ ls.take i, fewB l 16 = true) → ∃ b, Gives (fun k => sennitref20_Few.l0 k result ls (i : Int)) b ∧ (b = true → fewB result 16 = true ∧ ls.length ≤ 6 ∧ ∀ l ∈ ls, fewB l 16 = true) := by
    intro r
    induction r with
    | zero =>
      intro i hi hP
      obtain ⟨b, h1, h2⟩ := hlast i (by omega) hP
      refine ⟨b, h1.step fun k => ?_, h2⟩
      show sennitref20_Few.l0 (k + 1) result ls (i : Int) = _
      rw [sennitref20_Few.l0]
      by_cases h : i < ls.length
      · rw [if_pos (by omega), decide_eq_false (by omega)]
      · rw [if_neg (by omega)]
    | succ r ih =>
      intro i hi hP
      have hil : i < ls.length := by omega
      have e : rd_L1 ls (i : Int) = ls[i] := getN hil
      have hf := ref_few01 ls[i] 16 (by omega)
      have h0 : ∀ b, Gives (fun k => sennitref20_Few.j1 k result ls (i : Int) true) b → Gives (fun k => sennitref20_Few.l0 k result ls (i : Int)) b := fun b hb => hb.step fun k => by
        show sennitref20_Few.l0 (k + 1) result ls (i : Int) = _
        rw [sennitref20_Few.l0, if_pos (by omega), decide_eq_true (by omega)]
      cases hb : fewB ls[i] 16 with
      | true =>
        obtain ⟨b, h1, h2⟩ := ih (i + 1) (by omega) (fun l hl => by
          rw [← List.take_append_getElem hil] at hl
          rcases List.mem_append.1 hl with hl | hl
          · exact hP l hl
          · rw [List.mem_singleton.1 hl]; exact hb)
        refine ⟨b, h0 b (Gives.call hf h1 fun k hk => ?_), h2⟩
        show sennitref20_Few.j1 (k + 1) result ls (i : Int) true = _
        have hk' : sennitref01_Few.f k ls[i] 16 = some true := by rw [← hb]; exact hk
        rw [sennitref20_Few.j1, if_pos rfl, if_pos (by omega), if_pos (by omega), e, hk', Option.bind_some, if_pos rfl, gw1 (by omega)]
      | false =>
        refine ⟨false, h0 false (Gives.last hf fun k hk => ?_), fun h => by cases h⟩
        show sennitref20_Few.j1 (k + 1) result ls (i : Int) true = _
        have hk' : sennitref01_Few.f k ls[i] 16 = some false := by rw [← hb]; exact hk
        rw [sennitref20_Few.j1, if_pos rfl, if_pos (by omega), if_pos (by omega), e, hk', Option.bind_some, if_neg (by decide)]
  obtain ⟨b, h1, h2⟩ := hmain (min ls.length 7) 0 (by omega) (by simp)
  refine ⟨b, h1.same fun k => rfl, fun h => ?_⟩
  obtain ⟨h3, h4, h5⟩ := h2 h
  exact ⟨of_decide_eq_true h3, h4, fun l hl => of_decide_eq_true (h5 l hl)⟩
section
variable {result : List ByteArray} {ls : List (List ByteArray)}
theorem FewT.sum (h : FewT result ls) : sumLen ls ≤ 96 := by
  have := sumLen_take 16 ls ls.length (fun l hl => (h.2.2 l hl).1)
  rw [List.take_length] at this
  have := h.2.1
  omega
theorem FewT.ok (h : FewT result ls) : tableOk result ls = true := by
  obtain ⟨⟨h1, h2⟩, h3, h4⟩ := h
  have h5 : sumLen ls ≤ 96 := FewT.sum ⟨⟨h1, h2⟩, h3, h4⟩
  rw [tableOk, Bool.and_eq_true, Bool.or_eq_true]
  refine ⟨decide_eq_true ⟨by omega, by omega, ?_⟩, .inr (decide_eq_true (by omega))⟩
  intro l hl
  rcases List.mem_cons.1 hl with rfl | hl
  · exact ⟨by omega, fun s hs => by have := h2 s hs; omega⟩
  · have := (h4 l hl).1
    exact ⟨by omega, fun s hs => by have := (h4 l hl).2 s hs; omega⟩
theorem FewT.table (h : FewT result ls) : table_Table.f result ls = some (tableF result ls) := by rw [table_Table.f, if_pos h.ok]

theorem ref_wrong_l0 (h : ∀ l ∈ ls, l.length ≤ 2000 ∧ ∀ s ∈ l, s.size ≤ 1000000) (hn : ls.length ≤ 1000) : ∀ (r i : Nat) (m : Bool), i + r = ls.length → Gives (fun k => sennitref20_wrong.l0 k ls m false (i : Int)) (if (m && (ls.drop i).all mayL) = true then 0 else 2) := by
  intro r
  induction r with
  | zero =>
    intro i m hi
    refine Gives.of fun k => ?_
    show sennitref20_wrong.l0 (k + 1) ls m false (i : Int) = _
    rw [sennitref20_wrong.l0, if_neg (by omega), List.drop_of_length_le (by omega)]
    cases m <;> rfl
  | succ r ih =>
    intro i m hi
    have hil : i < ls.length := by omega
    have e : rd_L1 ls (i : Int) = ls[i] := getN hil
    have hz := h ls[i] (List.getElem_mem _)
    rw [dropCons hil, List.all_cons]
    cases m with
    | true =>
      have hm := ref_May01 ls[i] (by omega) hz.2
      have := ih (i + 1) (mayL ls[i]) (by omega)
      rw [Bool.true_and]
      refine Gives.call hm this fun k hk => ?_
      show sennitref20_wrong.l0 (k + 1) ls true false (i : Int) = _
      rw [sennitref20_wrong.l0, if_pos (by omega), if_pos rfl, if_pos (by omega), e, hk, Option.bind_some, if_neg (by decide), gw1 (by omega), decide_eq_false (by omega)]
    | false =>
      have := ih (i + 1) false (by omega)
      refine (this.eq rfl).step fun k => ?_
      show sennitref20_wrong.l0 (k + 1) ls false false (i : Int) = _
      rw [sennitref20_wrong.l0, if_pos (by omega), if_neg (by decide), if_neg (by decide), if_pos (by omega), e, gw1 (by omega), decide_eq_false (by omega)]
theorem ref_wrong20 (h : FewT result ls) : Gives (fun k => sennitref20_wrong.f k result ls) (wrongF mayL (result :: ls)) := by
  obtain ⟨⟨h1, h2⟩, h3, h4⟩ := h
  by_cases h0 : ls.length = 0
  · have e : wrongF mayL (result :: ls) = 1 := by rw [wrongF, if_pos (by simp; omega)]
    rw [e]
    refine (Gives.of (f := fun k => sennitref20_wrong.j0 k result ls true) fun k => ?_).same fun k => ?_
    · show sennitref20_wrong.j0 (k + 1) result ls true = _
      rw [sennitref20_wrong.j0, if_pos rfl]
    · show sennitref20_wrong.f k result ls = _
      rw [sennitref20_wrong.f, if_pos (by omega)]
  · have hl : (result :: ls).any longL = false := by
      rw [List.any_eq_false]
      intro l hl
      rcases List.mem_cons.1 hl with rfl | hl
      · simp [longL]; omega
      · have := (h4 l hl).1; simp [longL]; omega
    have e : wrongF mayL (result :: ls) = (if (mayL result && (ls.drop 0).all mayL) = true then 0 else 2) := by
      rw [wrongF, if_neg (by simp; omega), hl, if_neg (show ¬ false = true by decide), List.drop_zero]
      by_cases hm : (mayL result && ls.all mayL) = true
      · rw [if_pos hm, if_neg]
        rw [← List.all_cons (f := mayL)] at hm
        simp only [List.any_eq_true, not_exists, not_and]
        intro x hx hc
        rw [List.all_eq_true.1 hm x hx] at hc; cases hc
      · rw [if_neg hm, if_pos]
        rw [← List.all_cons (f := mayL), List.all_eq_true] at hm
        rw [List.any_eq_true]
        apply Classical.byContradiction
        intro hc
        apply hm
        intro x hx
        cases hmx : mayL x with
        | true => rfl
        | false => exact absurd ⟨x, hx, by rw [hmx]; rfl⟩ hc
    rw [e]
    have hm := ref_May01 result (by omega) (fun s hs => by have := h2 s hs; omega)
    have hw := ref_wrong_l0 (ls := ls) (fun l hl => ⟨by have := (h4 l hl).1; omega, fun s hs => by have := (h4 l hl).2 s hs; omega⟩) (by omega) ls.length 0 (mayL result) (by omega)
    refine (Gives.call hm hw (f := fun k => sennitref20_wrong.j0 k result ls false) fun k hk => ?_).same fun k => ?_
    · show sennitref20_wrong.j0 (k + 1) result ls false = _
      rw [sennitref20_wrong.j0, if_neg (by decide), hk, Option.bind_some, decide_eq_false (by omega)]; rfl
    · show sennitref20_wrong.f k result ls = _
      rw [sennitref20_wrong.f, if_neg (by omega), decide_eq_false (by omega)]
end
section
variable {result : List ByteArray} {ls : List (List ByteArray)}
theorem segRows_len (result : List ByteArray) (ls : List (List ByteArray)) (q : Nat) : (segRows result ls q).length ≤ sumLen ls := by
  rw [segRows, List.length_map]
  refine Nat.le_trans (rowsOf_le _) ?_
  rw [segsL, sumLen, sumLen, List.map_map]
  induction ls with
  | nil => simp
  | cons p t ih =>
    simp only [List.map_cons, List.sum_cons, Function.comp_apply]
    have := segL_length_le p (matchS result p) q
    have := ih
    simp only [Function.comp_def] at this ⊢
    omega
theorem tableRows_len (result : List ByteArray) (ls : List (List ByteArray)) : ∀ q, q ≤ result.length → (tableRows result ls q).length ≤ q * (sumLen ls + 1)
  | 0, _ => by simp [tableRows]
  | q + 1, h => by
    have := tableRows_len result ls q (by omega)
    have h2 := segRows_len result ls q
    rw [tableRows_succ _ _ _ h, List.length_append, List.length_append, List.length_singleton, Nat.succ_mul]
    omega
theorem FewT.rows (h : FewT result ls) {q : Nat} (hq : q ≤ result.length) : (tableRows result ls q).length ≤ 2000 := by
  have h1 := tableRows_len result ls q hq
  have h2 := h.sum
  have h3 := h.1.1
  have : q * (sumLen ls + 1) ≤ 16 * 97 := Nat.mul_le_mul (by omega) (by omega)
  omega
theorem FewT.all (h : FewT result ls) : (tableAll result ls).length ≤ 3000 := by
  rw [tableAll_eq, List.length_append]
  have := h.rows (Nat.le_refl _)
  have := segRows_len result ls result.length
  have := h.sum
  omega
end
end Go.Proofs.Ytnlekganlliikaa.X
-- part XTabCols
namespace Go.Proofs.Ytnlekganlliikaa.X
open Go.RowKit Go.Proofs.YtnlekganlliikaaW.PrintWords Go.Proofs.YtnlekganlliikaaW.PrintLast Go.Proofs.YtnlekganlliikaaW.PrintMore
set_option linter.unusedVariables false
set_option linter.unusedSimpArgs false
section
variable {result : List ByteArray} {ls : List (List ByteArray)}
theorem seg_row (hn : ls.length ≤ 16) (q : Nat) : ∀ x ∈ segRows result ls q, x.f0.size = ls.length ∧ (∀ c ∈ x.f0.data.toList, c = 45 ∨ c = 32) ∧ 45 ∈ x.f0.data.toList := by
  have h := rowsOf_cols (segsL result ls q) (by rw [segsL_length]; exact hn)
  rw [segsL_length] at h
  exact rowOut_ok hn h
theorem line_mem (q : Nat) : ∀ c ∈ marksU result ls q, c = 32 ∨ c = 43 := by
  intro c hc
  obtain ⟨p, _, rfl⟩ := List.mem_map.1 hc
  split
  · exact .inl rfl
  · exact .inr rfl
theorem line_lost (q : Nat) : lostB (bs (marksU result ls q)) = false := by
  rw [lostB_mem]
  refine decide_eq_false fun h => ?_
  rcases line_mem q 45 (by simpa [bs] using h) with h | h <;> cases h
theorem rows_size (hn : ls.length ≤ 16) : ∀ q, q ≤ result.length → ∀ x ∈ tableRows result ls q, x.f0.size = ls.length
  | 0, _, x, hx => by cases hx
  | q + 1, h, x, hx => by
    rw [tableRows_succ _ _ _ h] at hx
    rcases List.mem_append.1 hx with hx | hx
    · rcases List.mem_append.1 hx with hx | hx
      · exact rows_size hn q (by omega) x hx
      · exact (seg_row hn q x hx).1
    · rw [List.mem_singleton.1 hx]
      show (bs (marksU result ls q)).size = _
      rw [bs_size, marksU, List.length_map]
theorem all_size (hn : ls.length ≤ 16) : ∀ x ∈ tableAll result ls, x.f0.size = ls.length := by
  intro x hx
  rw [tableAll_eq] at hx
  rcases List.mem_append.1 hx with hx | hx
  · exact rows_size hn _ (Nat.le_refl _) x hx
  · exact (seg_row hn _ x hx).1
theorem ref_May20 (result : List ByteArray) (ls : List (List ByteArray)) : ∃ b, Gives (fun k => sennitref20_May.f k result ls) b ∧ (b = true → FewT result ls ∧ wrongF mayL (result :: ls) = 0) := by
  obtain ⟨b, h1, h2⟩ := ref_Few20 result ls
  cases b with
  | false =>
    refine ⟨false, Gives.last0 h1 fun k hk => ?_, fun h => by cases h⟩
    show sennitref20_May.f k result ls = _
    rw [sennitref20_May.f, hk, Option.bind_some, if_neg (by decide)]
  | true =>
    have hF := h2 rfl
    refine ⟨wrongF mayL (result :: ls) == 0, Gives.call0 h1 (Gives.last0 (ref_wrong20 hF) (f := fun k => (sennitref20_wrong.f k result ls).bind fun t => some (t == 0)) fun k hk => ?_) fun k hk => ?_, fun h => ⟨hF, by simpa using h⟩⟩
    · show Option.bind _ _ = _
      rw [hk, Option.bind_some]
    · show sennitref20_May.f k result ls = _
      rw [sennitref20_May.f, hk, Option.bind_some, if_pos rfl]
end
end Go.Proofs.Ytnlekganlliikaa.X
-- part XTabMore
namespace Go.Proofs.Ytnlekganlliikaa.X
open Go.RowKit Go.Proofs.YtnlekganlliikaaW.PrintWords Go.Proofs.YtnlekganlliikaaW.PrintLast Go.Proofs.YtnlekganlliikaaW.PrintMore
set_option linter.unusedVariables false
set_option linter.unusedSimpArgs false
/-- A row, without the marks from a column on. -/
def shortR (n : Nat) (x : ApiRow) : ApiRow := ⟨x.f0.extract 0 n, x.f1⟩
/-- A row that is there without the last parent, too. -/
def stays (n : Nat) (x : ApiRow) : Bool := !(lostB x.f0 && !lostB (x.f0.extract 0 n))
def keep (n : Nat) (R : List ApiRow) : List ApiRow := (R.filter (stays n)).map (shortR n)
theorem keep_append (n : Nat) (a b : List ApiRow) : keep n (a ++ b) = keep n a ++ keep n b := by simp [keep]
theorem keep_one {n : Nat} {x y : ApiRow} (h : stays n x = true) (e : shortR n x = y) : keep n [x] = [y] := by
  rw [keep, List.filter_cons_of_pos h, List.filter_nil, List.map_cons, e]; rfl
theorem keep_none {n : Nat} {R : List ApiRow} (h : ∀ x ∈ R, stays n x = false) : keep n R = [] := by
  rw [keep, List.filter_eq_nil_iff.2 (fun x hx => by rw [h x hx]; decide)]; rfl
theorem bs_extract (l : List UInt8) (n : Nat) : (bs l).extract 0 n = bs (l.take n) := by
  apply ByteArray.ext
  rw [ByteArray.data_extract]
  simp [bs]
theorem lostB_bs (l : List UInt8) : lostB (bs l) = decide ((45 : UInt8) ∈ l) := by rw [lostB_mem]; rfl
theorem seg_keep {n : Nat} (hn : n < 16) (list : List ByteArray) : ∀ (ms : List Int) (rs : List RowG) (a : Nat), ms.length = rs.length → Cols n rs → keep n ((comeGo n list ms rs a).map (rowOut (n + 1))) = rs.map (rowOut n) := by
  have hnew : ∀ l : List ByteArray, keep n ((l.map (oneRow n)).map (rowOut (n + 1))) = [] := fun l => keep_none fun x hx => by
    rw [List.map_map] at hx
    obtain ⟨s, _, rfl⟩ := List.mem_map.1 hx
    show stays n (rowOut (n + 1) (oneRow n s)) = false
    rw [rowOut_new hn, stays, bs_extract, lostB_bs, lostB_bs, blanksU_succ, if_pos rfl]
    have h1 : (45 : UInt8) ∈ blanksU n n ++ [45] := by simp
    have h2 : ¬ (45 : UInt8) ∈ (blanksU n n ++ [45]).take n := by
      rw [List.take_left' (blanksU_len n n)]
      intro h
      obtain ⟨i, hi, e⟩ := List.mem_map.1 h
      rw [List.mem_range] at hi
      rw [if_neg (by omega)] at e
      cases e
    rw [decide_eq_true h1, decide_eq_false h2]; rfl
  have hold : ∀ x : RowG, (x.1.length = 16 ∧ (∀ c, x.1.getD c 0 = 0 ∨ x.1.getD c 0 = 1) ∧ (∀ c, n ≤ c → x.1.getD c 0 = 0) ∧ (∃ c, c < n ∧ x.1.getD c 0 = 1)) → ∀ (c : UInt8) (s : ByteArray), s = x.2 → keep n [⟨(rowOut n x).f0 ++ bs [c], s⟩] = [rowOut n x] := by
    rintro x hx c s rfl
    have hC : Cols n [x] := fun y hy => by rw [List.mem_singleton.1 hy]; exact hx
    have h1 := (rowOut_ok (by omega) hC) (rowOut n x) (by simp)
    have hl : ((x.1.map markB).take n).length = n := by rw [List.length_take, List.length_map, hx.1]; omega
    have hm : (45 : UInt8) ∈ (x.1.map markB).take n := by simpa [rowOut_f0, bs] using h1.2.2
    have e : (rowOut n x).f0 ++ bs [c] = bs ((x.1.map markB).take n ++ [c]) := by rw [rowOut_f0, bs_append]
    refine keep_one ?_ ?_
    · show stays n ⟨(rowOut n x).f0 ++ bs [c], x.2⟩ = true
      rw [e, stays, bs_extract, lostB_bs, lostB_bs, List.take_left' hl, decide_eq_true hm]
      simp
    · show (⟨((rowOut n x).f0 ++ bs [c]).extract 0 n, x.2⟩ : ApiRow) = _
      rw [e, bs_extract, List.take_left' hl]; rfl
  intro ms
  induction ms with
  | nil =>
    intro rs a hl hC
    obtain rfl : rs = [] := List.length_eq_zero_iff.1 hl.symm
    rw [comeGo_nil]; exact hnew _
  | cons m ms ih =>
    intro rs a hl hC
    cases rs with
    | nil => simp at hl
    | cons x rs =>
      have hx := hC x List.mem_cons_self
      have hC' : Cols n rs := fun y hy => hC y (List.mem_cons_of_mem _ hy)
      have ih' := fun a => ih rs a (by simpa using hl) hC'
      rw [comeGo]
      split
      · rw [List.map_append, List.map_cons, keep_append, hnew, List.nil_append, rowOut_yes hx.1 hn]
        rw [show ∀ (y : ApiRow) (l : List ApiRow), y :: l = [y] ++ l from fun _ _ => rfl, keep_append, hold x hx 45 _ rfl, ih']; rfl
      · rw [List.map_cons, rowOut_no hx.1 hn (hx.2.2.1 _ (Nat.le_refl _))]
        rw [show ∀ (y : ApiRow) (l : List ApiRow), y :: l = [y] ++ l from fun _ _ => rfl, keep_append, hold x hx 32 _ rfl, ih']; rfl
section
variable {result l : List ByteArray} {ls : List (List ByteArray)}
theorem keep_seg (hn : ls.length < 16) (q : Nat) : keep ls.length (segRows result (ls ++ [l]) q) = segRows result ls q := by
  have hs : segsL result (ls ++ [l]) q = segsL result ls q ++ [segL l (matchS result l) q] := by rw [segsL, List.map_append]; rfl
  have hC := rowsOf_cols (segsL result ls q) (by rw [segsL_length]; omega)
  rw [segsL_length] at hC
  rw [segRows, hs, rowsOf_snoc, segsL_length, List.length_append, List.length_singleton, comeF_def]
  exact seg_keep hn _ _ _ 0 (comeF_len_m _ _) hC
theorem keep_line (q : Nat) (s : ByteArray) : keep ls.length [⟨bs (marksU result (ls ++ [l]) q), s⟩] = [⟨bs (marksU result ls q), s⟩] := by
  have hm : marksU result (ls ++ [l]) q = marksU result ls q ++ [if 0 ≤ (matchS result l).getD q 0 then 32 else 43] := by rw [marksU, List.map_append]; rfl
  refine keep_one ?_ ?_
  · show stays ls.length ⟨bs (marksU result (ls ++ [l]) q), s⟩ = true
    rw [stays]
    show (!(lostB (bs (marksU result (ls ++ [l]) q)) && _)) = true
    rw [line_lost, Bool.false_and]; rfl
  · show (⟨(bs (marksU result (ls ++ [l]) q)).extract 0 ls.length, s⟩ : ApiRow) = _
    rw [bs_extract, hm, List.take_left' (by rw [marksU, List.length_map])]
theorem keep_rows (hn : ls.length < 16) : ∀ q, q ≤ result.length → keep ls.length (tableRows result (ls ++ [l]) q) = tableRows result ls q
  | 0, _ => rfl
  | q + 1, h => by
    rw [tableRows_succ _ _ _ h, tableRows_succ _ _ _ h, keep_append, keep_append, keep_rows hn q (by omega), keep_seg hn, keep_line]
theorem keep_table (hn : ls.length < 16) : keep ls.length (tableAll result (ls ++ [l])) = tableAll result ls := by
  rw [tableAll_eq, tableAll_eq, keep_append, keep_rows hn _ (Nat.le_refl _), keep_seg hn]
end
section
variable {F M : List ApiRow} {n : Nat}
theorem kept_at (hF : keep n M = F) {i : Nat} (hi : i < M.length) (h : stays n M[i] = true) : ∃ h' : (keep n (M.take i)).length < F.length, F[(keep n (M.take i)).length] = shortR n M[i] := by
  have e : F = keep n (M.take i) ++ shortR n M[i] :: keep n (M.drop (i + 1)) := by
    have h1 : M = M.take i ++ ([M[i]] ++ M.drop (i + 1)) := by
      rw [List.singleton_append, ← dropCons hi, List.take_append_drop]
    rw [← hF]
    conv => lhs; rw [h1]
    rw [keep_append, keep_append, keep_one h rfl]; rfl
  have h' : (keep n (M.take i)).length < F.length := by rw [e]; simp
  refine ⟨h', ?_⟩
  have : F[(keep n (M.take i)).length]? = some (shortR n M[i]) := by rw [e, List.getElem?_append_right (Nat.le_refl _), Nat.sub_self]; rfl
  rw [List.getElem?_eq_getElem h'] at this
  exact Option.some.inj this
theorem more_l0 (hF : keep n M = F) (hM : M.length ≤ 100000) (hFl : F.length ≤ 100000) (hn : n ≤ 16) (hz : ∀ x ∈ M, x.f0.size = n + 1) : ∀ (r i : Nat), i + r = M.length →
    Gives (fun k => sennitlaw20_TableMore.l0 k true (n : Int) F M ((keep n (M.take i)).length : Int) (i : Int)) true := by
  intro r
  induction r with
  | zero =>
    intro i hi
    refine Gives.of fun k => ?_
    show sennitlaw20_TableMore.l0 (k + 1) true (n : Int) F M _ (i : Int) = _
    rw [sennitlaw20_TableMore.l0, if_neg (by omega), if_pos rfl, List.take_of_length_le (by omega), hF]; simp
  | succ r ih =>
    intro i hi
    have hil : i < M.length := by omega
    have e : rd_T37 M (i : Int) = M[i] := getN hil
    have hzi := hz M[i] (List.getElem_mem _)
    have hnext := ih (i + 1) (by omega)
    have htk : keep n (M.take (i + 1)) = keep n (M.take i) ++ keep n [M[i]] := by rw [← List.take_append_getElem hil, keep_append]
    -- the row's own question
    have hgo : Gives (fun k => sennitlaw20_TableMore.j2 k true (n : Int) F M ((keep n (M.take i)).length : Int) (i : Int) (!stays n M[i]) (M[i].f0.extract 0 n) M[i].f1) true := by
      cases hs : stays n M[i] with
      | true =>
        obtain ⟨h', hg⟩ := kept_at hF hil hs
        rw [htk, keep_one hs rfl, List.length_append, List.length_singleton] at hnext
        refine hnext.step fun k => ?_
        show sennitlaw20_TableMore.j2 (k + 1) true (n : Int) F M _ (i : Int) (!true) _ _ = _
        have e2 : rd_T37 F ((keep n (M.take i)).length : Int) = F[(keep n (M.take i)).length] := getN h'
        obtain ⟨c, hc⟩ : ∃ c, (keep n (M.take i)).length = c := ⟨_, rfl⟩
        have e3 : rd_T37 F ((keep n (M.take i)).length : Int) = shortR n M[i] := e2.trans hg
        rw [hc] at h' e3 ⊢
        rw [sennitlaw20_TableMore.j2, if_neg (by decide), if_neg (by omega), if_pos (by omega), if_pos (by omega), e3, gw1 (by omega), gw1 (by omega)]
        exact if_neg (by simp [shortR])
      | false =>
        rw [htk, show keep n [M[i]] = [] from keep_none (fun x hx => by rw [List.mem_singleton.1 hx]; exact hs), List.append_nil] at hnext
        refine hnext.step fun k => ?_
        show sennitlaw20_TableMore.j2 (k + 1) true (n : Int) F M _ (i : Int) (!false) _ _ = _
        rw [sennitlaw20_TableMore.j2, if_pos (show (!false) = true from rfl), gw1 (by omega)]
    refine hgo.step fun k => ?_
    show sennitlaw20_TableMore.l0 (k + 1) true (n : Int) F M _ (i : Int) = _
    have eL : ∀ a b : ByteArray, table_Lost.f a b = some (lostB a) := fun _ _ => rfl
    rw [sennitlaw20_TableMore.l0, if_pos (by omega), if_pos (by omega), e, if_pos (by rw [hzi, gw1 (by omega)]), if_pos (by omega), if_pos (by omega), Int.toNat_natCast, eL, Option.bind_some, eL, Option.bind_some]
    cases h1 : lostB M[i].f0 with
    | true =>
      rw [if_pos rfl]
      show _ = sennitlaw20_TableMore.j2 k true (n : Int) F M _ (i : Int) (!stays n M[i]) _ _
      rw [stays, h1]; simp
    | false =>
      rw [if_neg (by decide)]
      show _ = sennitlaw20_TableMore.j2 k true (n : Int) F M _ (i : Int) (!stays n M[i]) _ _
      rw [stays, h1]; simp
end
theorem mayL_wrong {result : List ByteArray} {ls : List (List ByteArray)} {l : List ByteArray} (h : wrongF mayL (result :: (ls ++ [l])) = 0) (h2 : 1 ≤ ls.length) : wrongF mayL (result :: ls) = 0 := by
  have hL : (result :: (ls ++ [l])).length = ls.length + 2 := by simp
  unfold wrongF at h ⊢
  by_cases c1 : (result :: (ls ++ [l])).length < 2 ∨ 17 < (result :: (ls ++ [l])).length
  · rw [if_pos c1] at h; cases h
  · rw [if_neg c1] at h
    by_cases c2 : (result :: (ls ++ [l])).any (fun l => !mayL l) = true
    · rw [if_pos c2] at h; cases h
    · rw [if_neg c2] at h
      by_cases c3 : (result :: (ls ++ [l])).any longL = true
      · rw [if_pos c3] at h; cases h
      · have hsub : ∀ (f : List ByteArray → Bool), ¬ (result :: (ls ++ [l])).any f = true → ¬ (result :: ls).any f = true := fun f hf hc => by
          apply hf
          rw [← List.cons_append, List.any_append, hc]; rfl
        rw [if_neg (by simp; omega), if_neg (hsub _ c2), if_neg (hsub _ c3)]
theorem more20 (result : List ByteArray) (ls : List (List ByteArray)) : Gives (fun k => sennitlaw20_TableMore.f k result ls) true := by
  obtain ⟨b, h1, h2⟩ := ref_May20 result ls
  have hj : Gives (fun k => sennitlaw20_TableMore.j0 k result ls true true) true := Gives.of fun k => by
    show sennitlaw20_TableMore.j0 (k + 1) result ls true true = _
    rw [sennitlaw20_TableMore.j0, if_pos rfl]
  cases b with
  | false =>
    refine Gives.call0 h1 hj fun k hk => ?_
    show sennitlaw20_TableMore.f k result ls = _
    rw [sennitlaw20_TableMore.f, awake20, Option.bind_some, hk, Option.bind_some, if_neg (by decide)]
  | true =>
    obtain ⟨h, hw⟩ := h2 rfl
    by_cases h5 : ls.length < 2
    · refine Gives.call0 h1 hj fun k hk => ?_
      show sennitlaw20_TableMore.f k result ls = _
      rw [sennitlaw20_TableMore.f, awake20, Option.bind_some, hk, Option.bind_some, if_pos rfl, decide_eq_true (by omega)]
    · obtain ⟨fs, l, rfl⟩ : ∃ fs l, ls = fs ++ [l] := ⟨ls.dropLast, ls.getLast (by intro e; subst e; simp at h5), (List.dropLast_concat_getLast _).symm⟩
      have hlen : (fs ++ [l]).length = fs.length + 1 := by simp
      have h6 := h.2.1
      have hFew : FewT result fs := ⟨h.1, by omega, fun x hx => h.2.2 x (List.mem_append_left _ hx)⟩
      have hwf := mayL_wrong hw (by omega)
      have t1 : table_Table.f result fs = some (tableAll result fs, 0) := by rw [hFew.table, tableF, if_neg (by simpa using hwf)]
      have t2 : table_Table.f result (fs ++ [l]) = some (tableAll result (fs ++ [l]), 0) := by rw [h.table, tableF, if_neg (by simpa using hw)]
      have hz : ∀ x ∈ tableAll result (fs ++ [l]), x.f0.size = fs.length + 1 := fun x hx => by rw [all_size (by omega) x hx, hlen]
      have hmain := more_l0 (F := tableAll result fs) (M := tableAll result (fs ++ [l])) (n := fs.length) (keep_table (by omega)) (by have := h.all; omega) (by have := hFew.all; omega) (by omega) hz (tableAll result (fs ++ [l])).length 0 (by omega)
      refine Gives.call0 h1 (hmain.step (f := fun k => sennitlaw20_TableMore.j0 k result (fs ++ [l]) true false) fun k => ?_) fun k hk => ?_
      · show sennitlaw20_TableMore.j0 (k + 1) result (fs ++ [l]) true false = _
        have ew : wrap64 (((fs ++ [l]).length : Int) - 1) = (fs.length : Int) := by rw [gw (by omega) (by omega)]; omega
        rw [sennitlaw20_TableMore.j0, if_neg (by decide), ew, if_pos (by omega), if_pos (by omega), Int.toNat_natCast, List.take_left' rfl, t1, Option.bind_some, t2, Option.bind_some]; rfl
      · show sennitlaw20_TableMore.f k result (fs ++ [l]) = _
        rw [sennitlaw20_TableMore.f, awake20, Option.bind_some, hk, Option.bind_some, if_pos rfl, decide_eq_false (by omega)]
theorem law_TableMore (W : World) (A0 : Option Addr) (c0 : Nat) (l0 : List ByteArray) (hr0 : Kd.C Kd.string W A0 l0.length l0) (hc0 : l0.length ≤ c0) (g0 : l0.length * 16 ≤ 140737488351232 ∧ ∀ y ∈ l0, y.size ≤ 140737488351232) (A1 : Option Addr) (c1 : Nat) (l1 : List (List ByteArray)) (hr1 : Kd.C (Kd.slice 9 Kd.string) W A1 l1.length l1) (hc1 : l1.length ≤ c1) (g1 : l1.length * 24 ≤ 140737488351232 ∧ ∀ y ∈ l1, y.length * 16 ≤ 140737488351232 ∧ ∀ yy ∈ y, yy.size ≤ 140737488351232) :
    Calls Try.prog 14 #[.slice A0 l0.length c0, .slice A1 l1.length c1] W fun e w' => e = .returned (.bool true) ∧ Below W.heap.size W w' := by
  obtain ⟨k, hk⟩ := more20 l0 l1
  exact sennitlaw20_TableMore.calls k A0 c0 l0 A1 c1 l1 true W hr0 hc0 hr1 hc1 (hk k (Nat.le_refl _))
end Go.Proofs.Ytnlekganlliikaa.X
