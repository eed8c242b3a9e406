/-
  Parts of one proof, one behind the other: XKn2, XTabRows.
-/
import Derived.Test.YtnlekganlliikaaBTableRows4
-- part XKn2
namespace Go.Proofs.Ytnlekganlliikaa.X
open Go.RowKit Go.Proofs.YtnlekganlliikaaW.PrintWords Go.Proofs.YtnlekganlliikaaW.PrintLast Go.Proofs.YtnlekganlliikaaW.PrintMore
attribute [local go_sem] max2_int min2_int max_two min_two max_three min_three max_four min_four   -- for this text's walks alone
set_option linter.unusedVariables false
set_option linter.unusedSimpArgs false
def sennitlaw20_TableRows.l0 : Nat → List (S37) → Int → Bool → Int → Option (Bool)
  | 0, _, _, _, _ => none
  | k + 1, x0, x1, x5, x6 => if x6 < (x0.length : Int) then (if 0 ≤ x6 then (if (((rd_T37 x0 x6).f0).size : Int) > 40 then (some x5) else ((table_Lost.f ((rd_T37 x0 x6).f0) ((rd_T37 x0 x6).f1)).bind fun t163 => ((sennitref20_Lost.f k ((rd_T37 x0 x6).f0) ((rd_T37 x0 x6).f1)).bind fun t165 => (if (t163 != t165) = true then (some false) else (sennitlaw20_TableRows.l0 k x0 x1 x5 (wrap64 (x6 + 1))))))) else (none)) else (if x5 = true then ((table_Column.f x0 x1).bind fun t166 => ((sennitref20_Column.f k x0 x1).bind fun t169 => ((sennitref01_Same.f k t166 t169).bind fun t172 => (if t172 = true then ((table_Result.f x0).bind fun t173 => ((sennitref20_Result.f k x0).bind fun t176 => ((sennitref01_Same.f k t173 t176).bind fun t179 => (some t179)))) else (some false))))) else (some false))
def sennitlaw20_TableRows.f (k : Nat) (l0 : List (S37)) (a1 : Int) : Option (Bool) := (sennitlaw20_awake.f).bind fun t160 => (if (l0.length : Int) > 40 then (some t160) else (sennitlaw20_TableRows.l0 k l0 a1 t160 0))
def sennitlaw20_TableRows.T9 : Bool × List (List Nat × List Nat) := (true, [([], []), ([], []), ([0, 1], [0, 1]), ([2], [2]), ([3], [3]), ([], []), ([], []), ([5, 6], [5, 6]), ([7], [7]), ([8, 4], [8]), ([4, 9], [4, 9])])
def sennitlaw20_TableRows.B9 : List Nat := [0, 0, 3, 7, 15, 0, 0, 96, 224, 511, 1023]
theorem sennitlaw20_TableRows.tab9 : rtab .any (opsOf Try.f12 9) = sennitlaw20_TableRows.T9 := by kernel_rfl
theorem sennitlaw20_TableRows.bits9 : waitsOk sennitlaw20_TableRows.T9.2 sennitlaw20_TableRows.B9 = true := by kernel_rfl
set_option maxHeartbeats 8000000 in
set_option maxRecDepth 100000 in
theorem sennitlaw20_TableRows.calls (k : Nat) (A0 : Option Addr) (c0 : Nat) (l0 : List (S37)) (a1 : Int) (r : Bool) (w : World) (hr0 : Kd.C k37 w A0 l0.length l0) (hc0 : l0.length ≤ c0) (h : sennitlaw20_TableRows.f k l0 a1 = some r) :
    Calls Try.prog 12 #[.slice A0 l0.length c0, .int .i64 a1] w fun e w' => e = .returned (.bool r) ∧ Below w.heap.size w w' := by
  have hu37 := Try.underlying37
  have HR0 := Aside0.mk hr0
  have HC0 := Aside0.mk hc0
  clear hr0 hc0
  have HB := Aside0.mk (Below.refl w.heap.size w)
  have H : ((sennitlaw20_awake.f).bind fun t160 => (if (l0.length : Int) > 40 then (some t160) else (sennitlaw20_TableRows.l0 k l0 a1 t160 0))) = some r := h
  clear h
  replace H := Option.bind_eq_some_iff.mp H
  obtain ⟨t160, A30, H⟩ := H
  replace H : (if (l0.length : Int) > 40 then (some t160) else (sennitlaw20_TableRows.l0 k l0 a1 t160 0)) = some r := H
  have A3 := Aside0.mk A30
  clear A30
  by_cases c4 : (l0.length : Int) > 40
  · rw [if_pos c4] at H
    have c4b0 : decide (40 < (l0.length : Int)) = true := decide_eq_true c4
    have c4b1 : decide (40 < l0.length) = true := decide_eq_true (by omega)
    clear c4
    obtain rfl := Option.some.inj H
    go_enter Try.func12, Try.ntmps12
    go_wp2_with (first | ((with_reducible refine gate_callee (f := 23) rfl ?_); refine goesL_ (some 7) rfl rfl Try.func23 (by kernel_rfl) rfl #[] rfl (by (try simp only [List.map_toArray, List.map_cons, List.map_nil]); first | done | rfl | (simp only [List.length_drop, List.length_take]; rfl)) ?_; (with_reducible refine (sennitlaw20_awake.calls  t160 _ A3.out).mono ?_); rintro e w5 ⟨rfl, hb⟩; refine ⟨_, rfl, ?_⟩; have n0_ := Aside0.mk (below_step (by repeat (first | (with_reducible first | exact HB.out | apply below_alloc | apply pw_below_drewN | apply below_drew1) | exact HB.out)) hb); clear HB; have HB := n0_; clear n0_; (try clear hb); (try clear hb2); (try clear hk); (try clear hi)))
    go_ret
    exact ⟨by first | rfl | (simp [errW_none, errW_some] <;> rfl) | (simp [*, errW_none, errW_some] <;> rfl), by repeat (first | (with_reducible first | exact HB.out | apply below_alloc | apply pw_below_drewN | apply below_drew1) | exact HB.out)⟩
  · rw [if_neg c4] at H
    have c4b0 : decide (40 < (l0.length : Int)) = false := decide_eq_false c4
    have c4b1 : decide (40 < l0.length) = false := decide_eq_false (by omega)
    clear c4
    have H' := Aside0.mk H
    clear H
    go_enter Try.func12, Try.ntmps12
    go_wp2_with (first | ((with_reducible refine gate_callee (f := 23) rfl ?_); refine goesL_ (some 7) rfl rfl Try.func23 (by kernel_rfl) rfl #[] rfl (by (try simp only [List.map_toArray, List.map_cons, List.map_nil]); first | done | rfl | (simp only [List.length_drop, List.length_take]; rfl)) ?_; (with_reducible refine (sennitlaw20_awake.calls  t160 _ A3.out).mono ?_); rintro e w6 ⟨rfl, hb⟩; refine ⟨_, rfl, ?_⟩; have n0_ := Aside0.mk (below_step (by repeat (first | (with_reducible first | exact HB.out | apply below_alloc | apply pw_below_drewN | apply below_drew1) | exact HB.out)) hb); clear HB; have HB := n0_; clear n0_; (try clear hb); (try clear hb2); (try clear hk); (try clear hi)))
    go_loopg [6] k (fun kq v6 w' => ∃ (x6_1 : Int), v6 = .int .i64 x6_1 ∧ Aside0 (sennitlaw20_TableRows.l0 kq l0 a1 t160 x6_1 = some r) ∧ Aside0 (kq ≤ k) ∧ Aside0 (Below w.heap.size w w'))
    case atStart => exact ⟨(0), (by first | rfl | (simp; done) | (simp [*]; done)), H', ⟨Nat.le_refl _⟩, ⟨by repeat (first | (with_reducible first | exact HB.out | apply below_alloc | apply pw_below_drewN | apply below_drew1) | exact HB.out)⟩⟩
    case round =>
      clear H'
      try clear c1
      try clear c2
      try clear p2
      try clear c4
      try clear c4b0
      try clear c4b1
      obtain ⟨x6_1, rfl, HA, HK1, HB⟩ := hrel
      cases gk with
      | zero => exact absurd HA.out (by simp [sennitlaw20_TableRows.l0])
      | succ k1 =>
        have H := HA.out
        clear HA
        simp only [sennitlaw20_TableRows.l0] at H
        by_cases c7 : x6_1 < (l0.length : Int)
        · rw [if_pos c7] at H
          have c7b0 : decide (x6_1 < (l0.length : Int)) = true := decide_eq_true c7
          clear c7
          by_cases c8 : 0 ≤ x6_1
          · rw [if_pos c8] at H
            have c8b0 : decide (0 ≤ x6_1) = true := decide_eq_true c8
            clear c8
            by_cases c9 : (((rd_T37 l0 x6_1).f0).size : Int) > 40
            · rw [if_pos c9] at H
              have c9b0 : decide (40 < (((rd_T37 l0 x6_1).f0).size : Int)) = true := decide_eq_true c9
              have c9b1 : decide (40 < ((rd_T37 l0 x6_1).f0).size) = true := decide_eq_true (by omega)
              clear c9
              obtain rfl := Option.some.inj H
              have p161 : 0 ≤ (x6_1 : Int) := of_decide_eq_true (by first | (with_reducible assumption) | assumption)
              have q161 : x6_1 < (l0.length : Int) := of_decide_eq_true (by first | (with_reducible assumption) | assumption)
              obtain ⟨ad161, e161, hx161_0, hx161_1⟩ := at_T37 HR0.out x6_1 p161 q161
              cases e161
              replace hx161_0 := (HB.out.cell (World.block_lt_of_cell? w _ hx161_0)).trans hx161_0
              replace hx161_1 := (HB.out.cell (World.block_lt_of_cell? w _ hx161_1)).trans hx161_1
              replace p161 := eq_true p161
              replace q161 := eq_true q161
              go_wp2
              go_ret
              exact ⟨by first | rfl | (simp [errW_none, errW_some] <;> rfl) | (simp [*, errW_none, errW_some] <;> rfl), by repeat (first | (with_reducible first | exact HB.out | apply below_alloc | apply pw_below_drewN | apply below_drew1) | exact HB.out)⟩
            · rw [if_neg c9] at H
              have c9b0 : decide (40 < (((rd_T37 l0 x6_1).f0).size : Int)) = false := decide_eq_false c9
              have c9b1 : decide (40 < ((rd_T37 l0 x6_1).f0).size) = false := decide_eq_false (by omega)
              clear c9
              replace H := Option.bind_eq_some_iff.mp H
              obtain ⟨t163, A100, H⟩ := H
              replace H : ((sennitref20_Lost.f k1 ((rd_T37 l0 x6_1).f0) ((rd_T37 l0 x6_1).f1)).bind fun t165 => (if (t163 != t165) = true then (some false) else (sennitlaw20_TableRows.l0 k1 l0 a1 t160 (wrap64 (x6_1 + 1))))) = some r := H
              have A10 := Aside0.mk A100
              clear A100
              replace H := Option.bind_eq_some_iff.mp H
              obtain ⟨t165, A110, H⟩ := H
              replace H : (if (t163 != t165) = true then (some false) else (sennitlaw20_TableRows.l0 k1 l0 a1 t160 (wrap64 (x6_1 + 1)))) = some r := H
              have A11 := Aside0.mk A110
              clear A110
              by_cases c12 : (t163 != t165) = true
              · rw [if_pos c12] at H
                have c12b0 : (t163 != t165) = true := c12
                (try (have c12b1 : decide (t163 = t165) = false := by simpa using c12))
                (try (have c12b2 : (t163 == t165) = false := by simpa using c12))
                (try (have c12b3 : ¬ (t163 = t165) := by simpa using c12))
                clear c12
                obtain rfl := Option.some.inj H
                have p161 : 0 ≤ (x6_1 : Int) := of_decide_eq_true (by first | (with_reducible assumption) | assumption)
                have q161 : x6_1 < (l0.length : Int) := of_decide_eq_true (by first | (with_reducible assumption) | assumption)
                obtain ⟨ad161, e161, hx161_0, hx161_1⟩ := at_T37 HR0.out x6_1 p161 q161
                cases e161
                replace hx161_0 := (HB.out.cell (World.block_lt_of_cell? w _ hx161_0)).trans hx161_0
                replace hx161_1 := (HB.out.cell (World.block_lt_of_cell? w _ hx161_1)).trans hx161_1
                replace p161 := eq_true p161
                replace q161 := eq_true q161
                try go_wp2
                have n0_ := Aside0.mk (below_drew1 HB.out)
                clear HB
                have HB := n0_
                clear n0_
                have p162 : 0 ≤ (x6_1 : Int) := of_decide_eq_true (by first | (with_reducible assumption) | assumption)
                have q162 : x6_1 < (l0.length : Int) := of_decide_eq_true (by first | (with_reducible assumption) | assumption)
                obtain ⟨ad162, e162, hx162_0, hx162_1⟩ := at_T37 HR0.out x6_1 p162 q162
                have hw162_1 := hx162_1
                have hw162_0 := hx162_0
                obtain rfl : ad161 = ad162 := (by injection e162)
                replace hx162_0 := (HB.out.cell (World.block_lt_of_cell? w _ hx162_0)).trans hx162_0
                replace hx162_1 := (HB.out.cell (World.block_lt_of_cell? w _ hx162_1)).trans hx162_1
                replace p162 := eq_true p162
                replace q162 := eq_true q162
                have p164 : 0 ≤ (x6_1 : Int) := of_decide_eq_true (by first | (with_reducible assumption) | assumption)
                have q164 : x6_1 < (l0.length : Int) := of_decide_eq_true (by first | (with_reducible assumption) | assumption)
                obtain ⟨ad164, e164, hx164_0, hx164_1⟩ := at_T37 HR0.out x6_1 p164 q164
                have hw164_1 := hx164_1
                have hw164_0 := hx164_0
                obtain rfl : ad161 = ad164 := (by injection e164)
                replace hx164_0 := (HB.out.cell (World.block_lt_of_cell? w _ hx164_0)).trans hx164_0
                replace hx164_1 := (HB.out.cell (World.block_lt_of_cell? w _ hx164_1)).trans hx164_1
                replace p164 := eq_true p164
                replace q164 := eq_true q164
                refine start_ (n := 11) (S := fun w' => w'.cell? (ad161.add ((x6_1).toNat * 2)) = some (.string ((rd_T37 l0 x6_1).f0)) ∧ w'.cell? ⟨(ad161.add ((x6_1).toNat * 2)).block, (ad161.add ((x6_1).toNat * 2)).off + 1, none⟩ = some (.string ((rd_T37 l0 x6_1).f1)) ∧ w'.cell? (ad161.add ((x6_1).toNat * 2)) = some (.string ((rd_T37 l0 x6_1).f0)) ∧ w'.cell? ⟨(ad161.add ((x6_1).toNat * 2)).block, (ad161.add ((x6_1).toNat * 2)).off + 1, none⟩ = some (.string ((rd_T37 l0 x6_1).f1))) (ds := []) #[false, false, false, false, false, false, false, false, false, false, false] (by kernel_rfl) rfl rfl ⟨((HB.out.cell (World.block_lt_of_cell? w _ hw162_0)).trans hw162_0), ((HB.out.cell (World.block_lt_of_cell? w _ hw162_1)).trans hw162_1), ((HB.out.cell (World.block_lt_of_cell? w _ hw164_0)).trans hw164_0), ((HB.out.cell (World.block_lt_of_cell? w _ hw164_1)).trans hw164_1)⟩ (fun hHeld => ?_); refine with_tabW sennitlaw20_TableRows.tab9 sennitlaw20_TableRows.bits9 (fun HT_ HW_ => ?_)
                generalize wr.drew = w13 at HB hx162_0 hx162_1 hx164_0 hx164_1 hHeld ⊢
                refine pure_ (i := 0) (N := some 26) (v := ?_) (a' := ?_) #[true, false, false, false, false, false, false, false, false, false, false] rfl rfl (any_of HT_.out (by kernel_rfl)) (fun _ _ _ h => h) (Or.inl ⟨by rfl, ?_⟩) ?_ ?_
                rotate_left
                · intro w'
                  go_simp
                  with_reducible rfl
                rotate_left
                · simp only [Act.put, List.setIfInBounds_toArray, List.set_cons_zero, List.set_cons_succ, i64_w, i32_w]
                  rfl
                refine pure_ (i := 1) (N := some 27) (v := ?_) (a' := ?_) #[true, true, false, false, false, false, false, false, false, false, false] rfl rfl (any_of HT_.out (by kernel_rfl)) (fun _ _ _ h => h) (Or.inl ⟨by rfl, ?_⟩) ?_ ?_
                rotate_left
                · intro w'
                  go_simp
                  with_reducible rfl
                rotate_left
                · simp only [Act.put, List.setIfInBounds_toArray, List.set_cons_zero, List.set_cons_succ, i64_w, i32_w]
                  rfl
                refine pure_ (i := 2) (N := some 28) (v := ?_) (a' := ?_) #[true, true, true, false, false, false, false, false, false, false, false] rfl rfl (any_of HT_.out (by kernel_rfl)) (fun _ _ _ h => h) (Or.inl ⟨by rfl, ?_⟩) ?_ ?_
                rotate_left
                · intro w'
                  go_simp
                  with_reducible rfl
                rotate_left
                · simp only [Act.put, List.setIfInBounds_toArray, List.set_cons_zero, List.set_cons_succ, i64_w, i32_w]
                  rfl
                refine pure_ (i := 5) (N := some 31) (v := ?_) (a' := ?_) #[true, true, true, false, false, true, false, false, false, false, false] rfl rfl (any_of HT_.out (by kernel_rfl)) (fun _ _ _ h => h) (Or.inl ⟨by rfl, ?_⟩) ?_ ?_
                rotate_left
                · intro w'
                  go_simp
                  with_reducible rfl
                rotate_left
                · simp only [Act.put, List.setIfInBounds_toArray, List.set_cons_zero, List.set_cons_succ, i64_w, i32_w]
                  rfl
                refine pure_ (i := 6) (N := some 32) (v := ?_) (a' := ?_) #[true, true, true, false, false, true, true, false, false, false, false] rfl rfl (any_of HT_.out (by kernel_rfl)) (fun _ _ _ h => h) (Or.inl ⟨by rfl, ?_⟩) ?_ ?_
                rotate_left
                · intro w'
                  go_simp
                  with_reducible rfl
                rotate_left
                · simp only [Act.put, List.setIfInBounds_toArray, List.set_cons_zero, List.set_cons_succ, i64_w, i32_w]
                  rfl
                refine pure_ (i := 7) (N := some 33) (v := ?_) (a' := ?_) #[true, true, true, false, false, true, true, true, false, false, false] rfl rfl (any_of HT_.out (by kernel_rfl)) (fun _ _ _ h => h) (Or.inl ⟨by rfl, ?_⟩) ?_ ?_
                rotate_left
                · intro w'
                  go_simp
                  with_reducible rfl
                rotate_left
                · simp only [Act.put, List.setIfInBounds_toArray, List.set_cons_zero, List.set_cons_succ, i64_w, i32_w]
                  rfl
                refine take_ (i := 3) (N := some 29) (v := ?_) (a' := ?_) #[true, true, true, true, false, true, true, true, false, false, false] rfl rfl (take_ofW HT_.out HW_.out (by kernel_rfl)) (fun _ _ _ h => h) (Or.inl ⟨by rfl, ?_⟩) hHeld ?_ ?_
                rotate_left
                · rintro w' ⟨s0, s1, s2, s3⟩
                  go_simp
                  with_reducible rfl
                rotate_left
                · simp only [Act.put, List.setIfInBounds_toArray, List.set_cons_zero, List.set_cons_succ, i64_w, i32_w]
                  rfl
                refine take_ (i := 8) (N := some 34) (v := ?_) (a' := ?_) #[true, true, true, true, false, true, true, true, true, false, false] rfl rfl (take_ofW HT_.out HW_.out (by kernel_rfl)) (fun _ _ _ h => h) (Or.inl ⟨by rfl, ?_⟩) hHeld ?_ ?_
                rotate_left
                · rintro w' ⟨s0, s1, s2, s3⟩
                  go_simp
                  with_reducible rfl
                rotate_left
                · simp only [Act.put, List.setIfInBounds_toArray, List.set_cons_zero, List.set_cons_succ, i64_w, i32_w]
                  rfl
                refine one_ (i := 4) (N := some 30) #[true, true, true, true, true, true, true, true, true, false, false] rfl rfl (one_of HT_.out (by kernel_rfl)) (by decide) (fun K hK => ?_)
                refine goes_ Try.func32 (by kernel_rfl) rfl #[.agg #[.string ((rd_T37 l0 x6_1).f0), .string ((rd_T37 l0 x6_1).f1)]] (by rfl) rfl rfl (by (try simp only [List.map_toArray, List.map_cons, List.map_nil]); first | done | rfl | (simp only [List.length_drop, List.length_take]; rfl)) ?_
                with_reducible refine (table_Lost.calls ((rd_T37 l0 x6_1).f0) ((rd_T37 l0 x6_1).f1) t163 _ A10.out).mono ?_
                rintro e w14 ⟨rfl, hb⟩
                refine ⟨_, rfl, ?_⟩
                have n0_ := Aside0.mk (below_step (by repeat (first | (with_reducible first | exact HB.out | apply below_alloc | apply pw_below_drewN | apply below_drew1) | exact HB.out)) hb)
                clear HB
                have HB := n0_
                clear n0_
                (try clear hb)
                (try clear hb2)
                (try clear hk)
                (try clear hi)
                refine hK.out _ _ ⟨((HB.out.cell (World.block_lt_of_cell? w _ hw162_0)).trans hw162_0), ((HB.out.cell (World.block_lt_of_cell? w _ hw162_1)).trans hw162_1), ((HB.out.cell (World.block_lt_of_cell? w _ hw164_0)).trans hw164_0), ((HB.out.cell (World.block_lt_of_cell? w _ hw164_1)).trans hw164_1)⟩ (fun hHeld => ?_)
                clear hK K
                refine norm_ (a' := ?_) ?_ ?_
                rotate_left
                · show Act.put _ (some 30) _ = _
                  simp only [Act.put, List.setIfInBounds_toArray, List.set_cons_zero, List.set_cons_succ, i64_w, i32_w]
                  rfl
                refine one_ (i := 9) (N := some 35) #[true, true, true, true, true, true, true, true, true, true, false] rfl rfl (one_of HT_.out (by kernel_rfl)) (by decide) (fun K hK => ?_)
                refine goes_ Try.func34 (by kernel_rfl) rfl #[.agg #[.string ((rd_T37 l0 x6_1).f0), .string ((rd_T37 l0 x6_1).f1)]] (by rfl) rfl rfl (by (try simp only [List.map_toArray, List.map_cons, List.map_nil]); first | done | rfl | (simp only [List.length_drop, List.length_take]; rfl)) ?_
                with_reducible refine (sennitref20_Lost.calls k1 ((rd_T37 l0 x6_1).f0) ((rd_T37 l0 x6_1).f1) t165 _ A11.out).mono ?_
                rintro e w15 ⟨rfl, hb⟩
                refine ⟨_, rfl, ?_⟩
                have n0_ := Aside0.mk (below_step (by repeat (first | (with_reducible first | exact HB.out | apply below_alloc | apply pw_below_drewN | apply below_drew1) | exact HB.out)) hb)
                clear HB
                have HB := n0_
                clear n0_
                (try clear hb)
                (try clear hb2)
                (try clear hk)
                (try clear hi)
                refine hK.out _ _ ⟨((HB.out.cell (World.block_lt_of_cell? w _ hw162_0)).trans hw162_0), ((HB.out.cell (World.block_lt_of_cell? w _ hw162_1)).trans hw162_1), ((HB.out.cell (World.block_lt_of_cell? w _ hw164_0)).trans hw164_0), ((HB.out.cell (World.block_lt_of_cell? w _ hw164_1)).trans hw164_1)⟩ (fun hHeld => ?_)
                clear hK K
                refine norm_ (a' := ?_) ?_ ?_
                rotate_left
                · show Act.put _ (some 35) _ = _
                  simp only [Act.put, List.setIfInBounds_toArray, List.set_cons_zero, List.set_cons_succ, i64_w, i32_w]
                  rfl
                refine pure_ (i := 10) (N := some 36) (v := ?_) (a' := ?_) #[true, true, true, true, true, true, true, true, true, true, true] rfl rfl (any_of HT_.out (by kernel_rfl)) (fun _ _ _ h => h) (Or.inl ⟨by rfl, ?_⟩) ?_ ?_
                rotate_left
                · intro w'
                  go_simp
                  with_reducible rfl
                rotate_left
                · simp only [Act.put, List.setIfInBounds_toArray, List.set_cons_zero, List.set_cons_succ, i64_w, i32_w]
                  rfl
                refine done_ (done_of HT_.out (by kernel_rfl)) ?_
                try go_wp2
                go_ret
                exact ⟨by first | rfl | (simp [errW_none, errW_some] <;> rfl) | (simp [*, errW_none, errW_some] <;> rfl), by repeat (first | (with_reducible first | exact HB.out | apply below_alloc | apply pw_below_drewN | apply below_drew1) | exact HB.out)⟩
              · rw [if_neg c12] at H
                have c12b0 : (t163 != t165) = false := by simpa using c12
                (try (have c12b1 : decide (t163 = t165) = true := by simpa using c12))
                (try (have c12b2 : (t163 == t165) = true := by simpa using c12))
                clear c12
                have H' := Aside0.mk H
                clear H
                have p161 : 0 ≤ (x6_1 : Int) := of_decide_eq_true (by first | (with_reducible assumption) | assumption)
                have q161 : x6_1 < (l0.length : Int) := of_decide_eq_true (by first | (with_reducible assumption) | assumption)
                obtain ⟨ad161, e161, hx161_0, hx161_1⟩ := at_T37 HR0.out x6_1 p161 q161
                cases e161
                replace hx161_0 := (HB.out.cell (World.block_lt_of_cell? w _ hx161_0)).trans hx161_0
                replace hx161_1 := (HB.out.cell (World.block_lt_of_cell? w _ hx161_1)).trans hx161_1
                replace p161 := eq_true p161
                replace q161 := eq_true q161
                try go_wp2
                have n0_ := Aside0.mk (below_drew1 HB.out)
                clear HB
                have HB := n0_
                clear n0_
                have p162 : 0 ≤ (x6_1 : Int) := of_decide_eq_true (by first | (with_reducible assumption) | assumption)
                have q162 : x6_1 < (l0.length : Int) := of_decide_eq_true (by first | (with_reducible assumption) | assumption)
                obtain ⟨ad162, e162, hx162_0, hx162_1⟩ := at_T37 HR0.out x6_1 p162 q162
                have hw162_1 := hx162_1
                have hw162_0 := hx162_0
                obtain rfl : ad161 = ad162 := (by injection e162)
                replace hx162_0 := (HB.out.cell (World.block_lt_of_cell? w _ hx162_0)).trans hx162_0
                replace hx162_1 := (HB.out.cell (World.block_lt_of_cell? w _ hx162_1)).trans hx162_1
                replace p162 := eq_true p162
                replace q162 := eq_true q162
                have p164 : 0 ≤ (x6_1 : Int) := of_decide_eq_true (by first | (with_reducible assumption) | assumption)
                have q164 : x6_1 < (l0.length : Int) := of_decide_eq_true (by first | (with_reducible assumption) | assumption)
                obtain ⟨ad164, e164, hx164_0, hx164_1⟩ := at_T37 HR0.out x6_1 p164 q164
                have hw164_1 := hx164_1
                have hw164_0 := hx164_0
                obtain rfl : ad161 = ad164 := (by injection e164)
                replace hx164_0 := (HB.out.cell (World.block_lt_of_cell? w _ hx164_0)).trans hx164_0
                replace hx164_1 := (HB.out.cell (World.block_lt_of_cell? w _ hx164_1)).trans hx164_1
                replace p164 := eq_true p164
                replace q164 := eq_true q164
                refine start_ (n := 11) (S := fun w' => w'.cell? (ad161.add ((x6_1).toNat * 2)) = some (.string ((rd_T37 l0 x6_1).f0)) ∧ w'.cell? ⟨(ad161.add ((x6_1).toNat * 2)).block, (ad161.add ((x6_1).toNat * 2)).off + 1, none⟩ = some (.string ((rd_T37 l0 x6_1).f1)) ∧ w'.cell? (ad161.add ((x6_1).toNat * 2)) = some (.string ((rd_T37 l0 x6_1).f0)) ∧ w'.cell? ⟨(ad161.add ((x6_1).toNat * 2)).block, (ad161.add ((x6_1).toNat * 2)).off + 1, none⟩ = some (.string ((rd_T37 l0 x6_1).f1))) (ds := []) #[false, false, false, false, false, false, false, false, false, false, false] (by kernel_rfl) rfl rfl ⟨((HB.out.cell (World.block_lt_of_cell? w _ hw162_0)).trans hw162_0), ((HB.out.cell (World.block_lt_of_cell? w _ hw162_1)).trans hw162_1), ((HB.out.cell (World.block_lt_of_cell? w _ hw164_0)).trans hw164_0), ((HB.out.cell (World.block_lt_of_cell? w _ hw164_1)).trans hw164_1)⟩ (fun hHeld => ?_); refine with_tabW sennitlaw20_TableRows.tab9 sennitlaw20_TableRows.bits9 (fun HT_ HW_ => ?_)
                generalize wr.drew = w16 at HB hx162_0 hx162_1 hx164_0 hx164_1 hHeld ⊢
                refine pure_ (i := 0) (N := some 26) (v := ?_) (a' := ?_) #[true, false, false, false, false, false, false, false, false, false, false] rfl rfl (any_of HT_.out (by kernel_rfl)) (fun _ _ _ h => h) (Or.inl ⟨by rfl, ?_⟩) ?_ ?_
                rotate_left
                · intro w'
                  go_simp
                  with_reducible rfl
                rotate_left
                · simp only [Act.put, List.setIfInBounds_toArray, List.set_cons_zero, List.set_cons_succ, i64_w, i32_w]
                  rfl
                refine pure_ (i := 1) (N := some 27) (v := ?_) (a' := ?_) #[true, true, false, false, false, false, false, false, false, false, false] rfl rfl (any_of HT_.out (by kernel_rfl)) (fun _ _ _ h => h) (Or.inl ⟨by rfl, ?_⟩) ?_ ?_
                rotate_left
                · intro w'
                  go_simp
                  with_reducible rfl
                rotate_left
                · simp only [Act.put, List.setIfInBounds_toArray, List.set_cons_zero, List.set_cons_succ, i64_w, i32_w]
                  rfl
                refine pure_ (i := 2) (N := some 28) (v := ?_) (a' := ?_) #[true, true, true, false, false, false, false, false, false, false, false] rfl rfl (any_of HT_.out (by kernel_rfl)) (fun _ _ _ h => h) (Or.inl ⟨by rfl, ?_⟩) ?_ ?_
                rotate_left
                · intro w'
                  go_simp
                  with_reducible rfl
                rotate_left
                · simp only [Act.put, List.setIfInBounds_toArray, List.set_cons_zero, List.set_cons_succ, i64_w, i32_w]
                  rfl
                refine pure_ (i := 5) (N := some 31) (v := ?_) (a' := ?_) #[true, true, true, false, false, true, false, false, false, false, false] rfl rfl (any_of HT_.out (by kernel_rfl)) (fun _ _ _ h => h) (Or.inl ⟨by rfl, ?_⟩) ?_ ?_
                rotate_left
                · intro w'
                  go_simp
                  with_reducible rfl
                rotate_left
                · simp only [Act.put, List.setIfInBounds_toArray, List.set_cons_zero, List.set_cons_succ, i64_w, i32_w]
                  rfl
                refine pure_ (i := 6) (N := some 32) (v := ?_) (a' := ?_) #[true, true, true, false, false, true, true, false, false, false, false] rfl rfl (any_of HT_.out (by kernel_rfl)) (fun _ _ _ h => h) (Or.inl ⟨by rfl, ?_⟩) ?_ ?_
                rotate_left
                · intro w'
                  go_simp
                  with_reducible rfl
                rotate_left
                · simp only [Act.put, List.setIfInBounds_toArray, List.set_cons_zero, List.set_cons_succ, i64_w, i32_w]
                  rfl
                refine pure_ (i := 7) (N := some 33) (v := ?_) (a' := ?_) #[true, true, true, false, false, true, true, true, false, false, false] rfl rfl (any_of HT_.out (by kernel_rfl)) (fun _ _ _ h => h) (Or.inl ⟨by rfl, ?_⟩) ?_ ?_
                rotate_left
                · intro w'
                  go_simp
                  with_reducible rfl
                rotate_left
                · simp only [Act.put, List.setIfInBounds_toArray, List.set_cons_zero, List.set_cons_succ, i64_w, i32_w]
                  rfl
                refine take_ (i := 3) (N := some 29) (v := ?_) (a' := ?_) #[true, true, true, true, false, true, true, true, false, false, false] rfl rfl (take_ofW HT_.out HW_.out (by kernel_rfl)) (fun _ _ _ h => h) (Or.inl ⟨by rfl, ?_⟩) hHeld ?_ ?_
                rotate_left
                · rintro w' ⟨s0, s1, s2, s3⟩
                  go_simp
                  with_reducible rfl
                rotate_left
                · simp only [Act.put, List.setIfInBounds_toArray, List.set_cons_zero, List.set_cons_succ, i64_w, i32_w]
                  rfl
                refine take_ (i := 8) (N := some 34) (v := ?_) (a' := ?_) #[true, true, true, true, false, true, true, true, true, false, false] rfl rfl (take_ofW HT_.out HW_.out (by kernel_rfl)) (fun _ _ _ h => h) (Or.inl ⟨by rfl, ?_⟩) hHeld ?_ ?_
                rotate_left
                · rintro w' ⟨s0, s1, s2, s3⟩
                  go_simp
                  with_reducible rfl
                rotate_left
                · simp only [Act.put, List.setIfInBounds_toArray, List.set_cons_zero, List.set_cons_succ, i64_w, i32_w]
                  rfl
                refine one_ (i := 4) (N := some 30) #[true, true, true, true, true, true, true, true, true, false, false] rfl rfl (one_of HT_.out (by kernel_rfl)) (by decide) (fun K hK => ?_)
                refine goes_ Try.func32 (by kernel_rfl) rfl #[.agg #[.string ((rd_T37 l0 x6_1).f0), .string ((rd_T37 l0 x6_1).f1)]] (by rfl) rfl rfl (by (try simp only [List.map_toArray, List.map_cons, List.map_nil]); first | done | rfl | (simp only [List.length_drop, List.length_take]; rfl)) ?_
                with_reducible refine (table_Lost.calls ((rd_T37 l0 x6_1).f0) ((rd_T37 l0 x6_1).f1) t163 _ A10.out).mono ?_
                rintro e w17 ⟨rfl, hb⟩
                refine ⟨_, rfl, ?_⟩
                have n0_ := Aside0.mk (below_step (by repeat (first | (with_reducible first | exact HB.out | apply below_alloc | apply pw_below_drewN | apply below_drew1) | exact HB.out)) hb)
                clear HB
                have HB := n0_
                clear n0_
                (try clear hb)
                (try clear hb2)
                (try clear hk)
                (try clear hi)
                refine hK.out _ _ ⟨((HB.out.cell (World.block_lt_of_cell? w _ hw162_0)).trans hw162_0), ((HB.out.cell (World.block_lt_of_cell? w _ hw162_1)).trans hw162_1), ((HB.out.cell (World.block_lt_of_cell? w _ hw164_0)).trans hw164_0), ((HB.out.cell (World.block_lt_of_cell? w _ hw164_1)).trans hw164_1)⟩ (fun hHeld => ?_)
                clear hK K
                refine norm_ (a' := ?_) ?_ ?_
                rotate_left
                · show Act.put _ (some 30) _ = _
                  simp only [Act.put, List.setIfInBounds_toArray, List.set_cons_zero, List.set_cons_succ, i64_w, i32_w]
                  rfl
                refine one_ (i := 9) (N := some 35) #[true, true, true, true, true, true, true, true, true, true, false] rfl rfl (one_of HT_.out (by kernel_rfl)) (by decide) (fun K hK => ?_)
                refine goes_ Try.func34 (by kernel_rfl) rfl #[.agg #[.string ((rd_T37 l0 x6_1).f0), .string ((rd_T37 l0 x6_1).f1)]] (by rfl) rfl rfl (by (try simp only [List.map_toArray, List.map_cons, List.map_nil]); first | done | rfl | (simp only [List.length_drop, List.length_take]; rfl)) ?_
                with_reducible refine (sennitref20_Lost.calls k1 ((rd_T37 l0 x6_1).f0) ((rd_T37 l0 x6_1).f1) t165 _ A11.out).mono ?_
                rintro e w18 ⟨rfl, hb⟩
                refine ⟨_, rfl, ?_⟩
                have n0_ := Aside0.mk (below_step (by repeat (first | (with_reducible first | exact HB.out | apply below_alloc | apply pw_below_drewN | apply below_drew1) | exact HB.out)) hb)
                clear HB
                have HB := n0_
                clear n0_
                (try clear hb)
                (try clear hb2)
                (try clear hk)
                (try clear hi)
                refine hK.out _ _ ⟨((HB.out.cell (World.block_lt_of_cell? w _ hw162_0)).trans hw162_0), ((HB.out.cell (World.block_lt_of_cell? w _ hw162_1)).trans hw162_1), ((HB.out.cell (World.block_lt_of_cell? w _ hw164_0)).trans hw164_0), ((HB.out.cell (World.block_lt_of_cell? w _ hw164_1)).trans hw164_1)⟩ (fun hHeld => ?_)
                clear hK K
                refine norm_ (a' := ?_) ?_ ?_
                rotate_left
                · show Act.put _ (some 35) _ = _
                  simp only [Act.put, List.setIfInBounds_toArray, List.set_cons_zero, List.set_cons_succ, i64_w, i32_w]
                  rfl
                refine pure_ (i := 10) (N := some 36) (v := ?_) (a' := ?_) #[true, true, true, true, true, true, true, true, true, true, true] rfl rfl (any_of HT_.out (by kernel_rfl)) (fun _ _ _ h => h) (Or.inl ⟨by rfl, ?_⟩) ?_ ?_
                rotate_left
                · intro w'
                  go_simp
                  with_reducible rfl
                rotate_left
                · simp only [Act.put, List.setIfInBounds_toArray, List.set_cons_zero, List.set_cons_succ, i64_w, i32_w]
                  rfl
                refine done_ (done_of HT_.out (by kernel_rfl)) ?_
                try go_wp2
                go_roundg k1
                case measure => have := HK1.out; omega
                case rel => exact ⟨(wrap64 (x6_1 + 1)), (by first | rfl | (simp; done) | (simp [*]; done)), H', ⟨by have := HK1.out; omega⟩, ⟨by repeat (first | (with_reducible first | exact HB.out | apply below_alloc | apply pw_below_drewN | apply below_drew1) | exact HB.out)⟩⟩
          · rw [if_neg c8] at H
            exact absurd H (by simp)
        · rw [if_neg c7] at H
          have c7b0 : decide (x6_1 < (l0.length : Int)) = false := decide_eq_false c7
          clear c7
          by_cases c19 : t160 = true
          · subst c19
            have H1 : ((table_Column.f l0 a1).bind fun t166 => ((sennitref20_Column.f k1 l0 a1).bind fun t169 => ((sennitref01_Same.f k1 t166 t169).bind fun t172 => (if t172 = true then ((table_Result.f l0).bind fun t173 => ((sennitref20_Result.f k1 l0).bind fun t176 => ((sennitref01_Same.f k1 t173 t176).bind fun t179 => (some t179)))) else (some false))))) = some r := by rw [if_pos rfl] at H; exact H
            clear H
            have H := H1
            clear H1
            replace H := Option.bind_eq_some_iff.mp H
            obtain ⟨t166, A200, H⟩ := H
            replace H : ((sennitref20_Column.f k1 l0 a1).bind fun t169 => ((sennitref01_Same.f k1 t166 t169).bind fun t172 => (if t172 = true then ((table_Result.f l0).bind fun t173 => ((sennitref20_Result.f k1 l0).bind fun t176 => ((sennitref01_Same.f k1 t173 t176).bind fun t179 => (some t179)))) else (some false)))) = some r := H
            have A20 := Aside0.mk A200
            clear A200
            replace H := Option.bind_eq_some_iff.mp H
            obtain ⟨t169, A210, H⟩ := H
            replace H : ((sennitref01_Same.f k1 t166 t169).bind fun t172 => (if t172 = true then ((table_Result.f l0).bind fun t173 => ((sennitref20_Result.f k1 l0).bind fun t176 => ((sennitref01_Same.f k1 t173 t176).bind fun t179 => (some t179)))) else (some false))) = some r := H
            have A21 := Aside0.mk A210
            clear A210
            replace H := Option.bind_eq_some_iff.mp H
            obtain ⟨t172, A220, H⟩ := H
            replace H : (if t172 = true then ((table_Result.f l0).bind fun t173 => ((sennitref20_Result.f k1 l0).bind fun t176 => ((sennitref01_Same.f k1 t173 t176).bind fun t179 => (some t179)))) else (some false)) = some r := H
            have A22 := Aside0.mk A220
            clear A220
            by_cases c23 : t172 = true
            · subst c23
              have H1 : ((table_Result.f l0).bind fun t173 => ((sennitref20_Result.f k1 l0).bind fun t176 => ((sennitref01_Same.f k1 t173 t176).bind fun t179 => (some t179)))) = some r := by rw [if_pos rfl] at H; exact H
              clear H
              have H := H1
              clear H1
              replace H := Option.bind_eq_some_iff.mp H
              obtain ⟨t173, A240, H⟩ := H
              replace H : ((sennitref20_Result.f k1 l0).bind fun t176 => ((sennitref01_Same.f k1 t173 t176).bind fun t179 => (some t179))) = some r := H
              have A24 := Aside0.mk A240
              clear A240
              replace H := Option.bind_eq_some_iff.mp H
              obtain ⟨t176, A250, H⟩ := H
              replace H : ((sennitref01_Same.f k1 t173 t176).bind fun t179 => (some t179)) = some r := H
              have A25 := Aside0.mk A250
              clear A250
              replace H := Option.bind_eq_some_iff.mp H
              obtain ⟨t179, A260, H⟩ := H
              replace H : (some t179) = some r := H
              have A26 := Aside0.mk A260
              clear A260
              obtain rfl := Option.some.inj H
              go_wp2_with (first | (go_at_call 28; (with_reducible refine (table_Column.calls _ _ l0 a1 t166 _ ?side1 ?side2 A20.out).mono ?_); (case side1 => repeat (first | exact (Kd.C_below HR0.out HB.out) | (with_reducible refine Kd.C_alloc ?_ _) | (with_reducible refine Kd.C_drewN ?_ _) | (with_reducible refine Kd.C_drew ?_))); (case side2 => exact HC0.out); rintro e w27 ⟨v167, rfl, ho0, hb⟩; have n0_ := Aside0.mk (Kd.R_lower ho0 (below_size (by repeat (first | (with_reducible first | exact HB.out | apply below_alloc | apply pw_below_drewN | apply below_drew1) | exact HB.out)))); have n1_ := Aside0.mk (below_step (by repeat (first | (with_reducible first | exact HB.out | apply below_alloc | apply pw_below_drewN | apply below_drew1) | exact HB.out)) hb); clear HB; have HO168 := n0_; have HB := n1_; clear n0_ n1_; (try clear hb); (try clear hb2); (try clear hk); (try clear hi); (try clear ho0)) | (go_at_call 35; (with_reducible refine (sennitref20_Column.calls k1 _ _ l0 a1 t169 _ ?side1 ?side2 A21.out).mono ?_); (case side1 => repeat (first | exact (Kd.C_below HR0.out HB.out) | (with_reducible refine Kd.C_alloc ?_ _) | (with_reducible refine Kd.C_drewN ?_ _) | (with_reducible refine Kd.C_drew ?_))); (case side2 => exact HC0.out); rintro e w28 ⟨v170, rfl, ho0, hb⟩; have n0_ := Aside0.mk (Kd.R_elder' (by (with_reducible repeat (first | apply Kd.R_alloc | apply Kd.R_drewN | apply Kd.R_drew)); exact HO168.out) (Kd.R_base ho0) hb); have n1_ := Aside0.mk (Kd.R_lower (Kd.R_new' ho0 (Kd.R_lt (by (with_reducible repeat (first | apply Kd.R_alloc | apply Kd.R_drewN | apply Kd.R_drew)); exact HO168.out))) (below_size (by repeat (first | (with_reducible first | exact HB.out | apply below_alloc | apply pw_below_drewN | apply below_drew1) | exact HB.out)))); have n2_ := Aside0.mk (below_step (by repeat (first | (with_reducible first | exact HB.out | apply below_alloc | apply pw_below_drewN | apply below_drew1) | exact HB.out)) hb); clear HO168; clear HB; have HO168 := n0_; have HO171 := n1_; have HB := n2_; clear n0_ n1_ n2_; (try clear hb); (try clear hb2); (try clear hk); (try clear hi); (try clear ho0); obtain ⟨Ao29, co29, eo29⟩ := Kd.R_slice HO168.out; subst eo29; obtain ⟨Ao30, co30, eo30⟩ := Kd.R_slice HO171.out; subst eo30) | (go_at_call 20; (with_reducible refine (sennitref01_Same.calls k1 _ _ t166 _ _ t169 true _ ?side1 ?side2 ?side3 ?side4 A22.out).mono ?_); (case side1 => repeat (first | exact (Kd.R_reads' HO168.out).2.2 | (with_reducible refine Kd.C_alloc ?_ _) | (with_reducible refine Kd.C_drewN ?_ _) | (with_reducible refine Kd.C_drew ?_))); (case side2 => exact (Kd.R_reads' HO168.out).2.1); (case side3 => repeat (first | exact (Kd.R_reads' HO171.out).2.2 | (with_reducible refine Kd.C_alloc ?_ _) | (with_reducible refine Kd.C_drewN ?_ _) | (with_reducible refine Kd.C_drew ?_))); (case side4 => exact (Kd.R_reads' HO171.out).2.1); rintro e w' ⟨rfl, ⟨nd, rfl⟩⟩) | (go_at_call 29; (with_reducible refine (table_Result.calls _ _ l0 t173 _ ?side1 ?side2 A24.out).mono ?_); (case side1 => repeat (first | exact (Kd.C_below HR0.out (by repeat (first | (with_reducible first | exact HB.out | apply below_alloc | apply pw_below_drewN | apply below_drew1) | exact HB.out))) | (with_reducible refine Kd.C_alloc ?_ _) | (with_reducible refine Kd.C_drewN ?_ _) | (with_reducible refine Kd.C_drew ?_))); (case side2 => exact HC0.out); rintro e w31 ⟨v174, rfl, ho0, hb⟩; have n0_ := Aside0.mk (Kd.R_elder' (by (with_reducible repeat (first | apply Kd.R_alloc | apply Kd.R_drewN | apply Kd.R_drew)); exact HO168.out) (Kd.R_base ho0) hb); have n1_ := Aside0.mk (Kd.R_elder' (by (with_reducible repeat (first | apply Kd.R_alloc | apply Kd.R_drewN | apply Kd.R_drew)); exact HO171.out) (Kd.R_base ho0) hb); have n2_ := Aside0.mk (Kd.R_lower (Kd.R_new' (Kd.R_new' ho0 (Kd.R_lt (by (with_reducible repeat (first | apply Kd.R_alloc | apply Kd.R_drewN | apply Kd.R_drew)); exact HO168.out))) (Kd.R_lt (by (with_reducible repeat (first | apply Kd.R_alloc | apply Kd.R_drewN | apply Kd.R_drew)); exact HO171.out))) (below_size (by repeat (first | (with_reducible first | exact HB.out | apply below_alloc | apply pw_below_drewN | apply below_drew1) | exact HB.out)))); have n3_ := Aside0.mk (below_step (by repeat (first | (with_reducible first | exact HB.out | apply below_alloc | apply pw_below_drewN | apply below_drew1) | exact HB.out)) hb); clear HO168; clear HO171; clear HB; have HO168 := n0_; have HO171 := n1_; have HO175 := n2_; have HB := n3_; clear n0_ n1_ n2_ n3_; (try clear hb); (try clear hb2); (try clear hk); (try clear hi); (try clear ho0)) | (go_at_call 36; (with_reducible refine (sennitref20_Result.calls k1 _ _ l0 t176 _ ?side1 ?side2 A25.out).mono ?_); (case side1 => repeat (first | exact (Kd.C_below HR0.out HB.out) | (with_reducible refine Kd.C_alloc ?_ _) | (with_reducible refine Kd.C_drewN ?_ _) | (with_reducible refine Kd.C_drew ?_))); (case side2 => exact HC0.out); rintro e w32 ⟨v177, rfl, ho0, hb⟩; have n0_ := Aside0.mk (Kd.R_elder' (by (with_reducible repeat (first | apply Kd.R_alloc | apply Kd.R_drewN | apply Kd.R_drew)); exact HO168.out) (Kd.R_base ho0) hb); have n1_ := Aside0.mk (Kd.R_elder' (by (with_reducible repeat (first | apply Kd.R_alloc | apply Kd.R_drewN | apply Kd.R_drew)); exact HO171.out) (Kd.R_base ho0) hb); have n2_ := Aside0.mk (Kd.R_elder' (by (with_reducible repeat (first | apply Kd.R_alloc | apply Kd.R_drewN | apply Kd.R_drew)); exact HO175.out) (Kd.R_base ho0) hb); have n3_ := Aside0.mk (Kd.R_lower (Kd.R_new' (Kd.R_new' (Kd.R_new' ho0 (Kd.R_lt (by (with_reducible repeat (first | apply Kd.R_alloc | apply Kd.R_drewN | apply Kd.R_drew)); exact HO168.out))) (Kd.R_lt (by (with_reducible repeat (first | apply Kd.R_alloc | apply Kd.R_drewN | apply Kd.R_drew)); exact HO171.out))) (Kd.R_lt (by (with_reducible repeat (first | apply Kd.R_alloc | apply Kd.R_drewN | apply Kd.R_drew)); exact HO175.out))) (below_size (by repeat (first | (with_reducible first | exact HB.out | apply below_alloc | apply pw_below_drewN | apply below_drew1) | exact HB.out)))); have n4_ := Aside0.mk (below_step (by repeat (first | (with_reducible first | exact HB.out | apply below_alloc | apply pw_below_drewN | apply below_drew1) | exact HB.out)) hb); clear HO168; clear HO171; clear HO175; clear HB; have HO168 := n0_; have HO171 := n1_; have HO175 := n2_; have HO178 := n3_; have HB := n4_; clear n0_ n1_ n2_ n3_ n4_; (try clear hb); (try clear hb2); (try clear hk); (try clear hi); (try clear ho0); obtain ⟨Ao33, co33, eo33⟩ := Kd.R_slice HO175.out; subst eo33; obtain ⟨Ao34, co34, eo34⟩ := Kd.R_slice HO178.out; subst eo34) | (go_at_call 20; (with_reducible refine (sennitref01_Same.calls k1 _ _ t173 _ _ t176 t179 _ ?side1 ?side2 ?side3 ?side4 A26.out).mono ?_); (case side1 => repeat (first | exact (Kd.R_reads' HO175.out).2.2 | (with_reducible refine Kd.C_alloc ?_ _) | (with_reducible refine Kd.C_drewN ?_ _) | (with_reducible refine Kd.C_drew ?_))); (case side2 => exact (Kd.R_reads' HO175.out).2.1); (case side3 => repeat (first | exact (Kd.R_reads' HO178.out).2.2 | (with_reducible refine Kd.C_alloc ?_ _) | (with_reducible refine Kd.C_drewN ?_ _) | (with_reducible refine Kd.C_drew ?_))); (case side4 => exact (Kd.R_reads' HO178.out).2.1); rintro e w' ⟨rfl, ⟨nd, rfl⟩⟩))
              go_ret
              exact ⟨by first | rfl | (simp [errW_none, errW_some] <;> rfl) | (simp [*, errW_none, errW_some] <;> rfl), by repeat (first | (with_reducible first | exact HB.out | apply below_alloc | apply pw_below_drewN | apply below_drew1) | exact HB.out)⟩
            · replace c23 := Bool.eq_false_iff.mpr c23
              subst c23
              have H1 : (some false) = some r := by rw [if_neg (show ¬ (false = true) by decide)] at H; exact H
              clear H
              have H := H1
              clear H1
              obtain rfl := Option.some.inj H
              go_wp2_with (first | (go_at_call 28; (with_reducible refine (table_Column.calls _ _ l0 a1 t166 _ ?side1 ?side2 A20.out).mono ?_); (case side1 => repeat (first | exact (Kd.C_below HR0.out HB.out) | (with_reducible refine Kd.C_alloc ?_ _) | (with_reducible refine Kd.C_drewN ?_ _) | (with_reducible refine Kd.C_drew ?_))); (case side2 => exact HC0.out); rintro e w35 ⟨v167, rfl, ho0, hb⟩; have n0_ := Aside0.mk (Kd.R_lower ho0 (below_size (by repeat (first | (with_reducible first | exact HB.out | apply below_alloc | apply pw_below_drewN | apply below_drew1) | exact HB.out)))); have n1_ := Aside0.mk (below_step (by repeat (first | (with_reducible first | exact HB.out | apply below_alloc | apply pw_below_drewN | apply below_drew1) | exact HB.out)) hb); clear HB; have HO168 := n0_; have HB := n1_; clear n0_ n1_; (try clear hb); (try clear hb2); (try clear hk); (try clear hi); (try clear ho0)) | (go_at_call 35; (with_reducible refine (sennitref20_Column.calls k1 _ _ l0 a1 t169 _ ?side1 ?side2 A21.out).mono ?_); (case side1 => repeat (first | exact (Kd.C_below HR0.out HB.out) | (with_reducible refine Kd.C_alloc ?_ _) | (with_reducible refine Kd.C_drewN ?_ _) | (with_reducible refine Kd.C_drew ?_))); (case side2 => exact HC0.out); rintro e w36 ⟨v170, rfl, ho0, hb⟩; have n0_ := Aside0.mk (Kd.R_elder' (by (with_reducible repeat (first | apply Kd.R_alloc | apply Kd.R_drewN | apply Kd.R_drew)); exact HO168.out) (Kd.R_base ho0) hb); have n1_ := Aside0.mk (Kd.R_lower (Kd.R_new' ho0 (Kd.R_lt (by (with_reducible repeat (first | apply Kd.R_alloc | apply Kd.R_drewN | apply Kd.R_drew)); exact HO168.out))) (below_size (by repeat (first | (with_reducible first | exact HB.out | apply below_alloc | apply pw_below_drewN | apply below_drew1) | exact HB.out)))); have n2_ := Aside0.mk (below_step (by repeat (first | (with_reducible first | exact HB.out | apply below_alloc | apply pw_below_drewN | apply below_drew1) | exact HB.out)) hb); clear HO168; clear HB; have HO168 := n0_; have HO171 := n1_; have HB := n2_; clear n0_ n1_ n2_; (try clear hb); (try clear hb2); (try clear hk); (try clear hi); (try clear ho0); obtain ⟨Ao37, co37, eo37⟩ := Kd.R_slice HO168.out; subst eo37; obtain ⟨Ao38, co38, eo38⟩ := Kd.R_slice HO171.out; subst eo38) | (go_at_call 20; (with_reducible refine (sennitref01_Same.calls k1 _ _ t166 _ _ t169 false _ ?side1 ?side2 ?side3 ?side4 A22.out).mono ?_); (case side1 => repeat (first | exact (Kd.R_reads' HO168.out).2.2 | (with_reducible refine Kd.C_alloc ?_ _) | (with_reducible refine Kd.C_drewN ?_ _) | (with_reducible refine Kd.C_drew ?_))); (case side2 => exact (Kd.R_reads' HO168.out).2.1); (case side3 => repeat (first | exact (Kd.R_reads' HO171.out).2.2 | (with_reducible refine Kd.C_alloc ?_ _) | (with_reducible refine Kd.C_drewN ?_ _) | (with_reducible refine Kd.C_drew ?_))); (case side4 => exact (Kd.R_reads' HO171.out).2.1); rintro e w' ⟨rfl, ⟨nd, rfl⟩⟩))
              go_ret
              exact ⟨by first | rfl | (simp [errW_none, errW_some] <;> rfl) | (simp [*, errW_none, errW_some] <;> rfl), by repeat (first | (with_reducible first | exact HB.out | apply below_alloc | apply pw_below_drewN | apply below_drew1) | exact HB.out)⟩
          · replace c19 := Bool.eq_false_iff.mpr c19
            subst c19
            have H1 : (some false) = some r := by rw [if_neg (show ¬ (false = true) by decide)] at H; exact H
            clear H
            have H := H1
            clear H1
            obtain rfl := Option.some.inj H
            go_wp2
            go_ret
            exact ⟨by first | rfl | (simp [errW_none, errW_some] <;> rfl) | (simp [*, errW_none, errW_some] <;> rfl), by repeat (first | (with_reducible first | exact HB.out | apply below_alloc | apply pw_below_drewN | apply below_drew1) | exact HB.out)⟩

end Go.Proofs.Ytnlekganlliikaa.X
-- part XTabRows
namespace Go.Proofs.Ytnlekganlliikaa.X
open Go.RowKit Go.Proofs.YtnlekganlliikaaW.PrintWords Go.Proofs.YtnlekganlliikaaW.PrintLast Go.Proofs.YtnlekganlliikaaW.PrintMore
set_option linter.unusedVariables false
set_option linter.unusedSimpArgs false
theorem awake20 : sennitlaw20_awake.f = some true := by decide +kernel
theorem index45_cases (u : List UInt8) : (¬ (45 : UInt8) ∈ u ∧ Lib.indexByte u 45 = -1) ∨ ((45 : UInt8) ∈ u ∧ 0 ≤ Lib.indexByte u 45) := by
  induction u with
  | nil => left; simp [Lib.indexByte]
  | cons x xs ih =>
    simp only [Lib.indexByte, List.mem_cons]
    by_cases e : x = 45
    · right; simp [e]
    · have e' : (x == 45) = false := by simp [e]
      have e2 : ¬ (45 : UInt8) = x := fun h => e h.symm
      rw [e']
      rcases ih with ⟨h1, h2⟩ | ⟨h1, h2⟩
      · left; simp [h1, h2, e2]
      · right
        refine ⟨.inr h1, ?_⟩
        rw [if_neg (by decide), if_neg (by simp; omega)]
        omega
theorem index45 (u : List UInt8) : decide (0 ≤ Lib.indexByte u 45) = decide ((45 : UInt8) ∈ u) := by
  rw [decide_eq_decide]
  rcases index45_cases u with ⟨h1, h2⟩ | ⟨h1, h2⟩
  · simp [h1, h2]
  · simp [h1, h2]
theorem byte45 (c : UInt8) : ((c.toNat : Int) = 45) ↔ c = 45 := by
  constructor
  · intro h
    have : c.toNat = 45 := by omega
    exact UInt8.toNat_inj.1 this
  · rintro rfl; rfl
theorem lostB_mem (s : ByteArray) : lostB s = decide ((45 : UInt8) ∈ s.data.toList) := index45 _
theorem ref_Lost20 (s t : ByteArray) (hs : s.size ≤ 1000000000) : Gives (fun k => sennitref20_Lost.f k s t) (lostB s) := by
  have hl : ∀ (r i : Nat), i + r = s.size → Gives (fun k => sennitref20_Lost.l0 k (i : Int) s t) (decide ((45 : UInt8) ∈ s.data.toList.drop i)) := by
    intro r
    induction r with
    | zero =>
      intro i hi
      refine Gives.of fun k => ?_
      show sennitref20_Lost.l0 (k + 1) (i : Int) s t = _
      rw [sennitref20_Lost.l0, if_neg (by omega), List.drop_of_length_le (by rw [← sizeLen]; omega)]
      simp
    | succ r ih =>
      intro i hi
      have hil : i < s.size := by omega
      have hd := dropCons (l := s.data.toList) (i := i) (by rw [← sizeLen]; exact hil)
      rw [hd]
      by_cases e : s.data.toList[i]'(by rw [← sizeLen]; exact hil) = 45
      · refine Gives.of fun k => ?_
        show sennitref20_Lost.l0 (k + 1) (i : Int) s t = _
        rw [sennitref20_Lost.l0, if_pos (by omega), if_pos (by omega), btN hil, if_pos ((byte45 _).2 e), e]
        simp
      · have e2 : ¬ (45 : UInt8) = s.data.toList[i]'(by rw [← sizeLen]; exact hil) := fun h => e h.symm
        refine ((ih (i + 1) (by omega)).eq (by simp only [List.mem_cons, e2, false_or])).step fun k => ?_
        show sennitref20_Lost.l0 (k + 1) (i : Int) s t = _
        rw [sennitref20_Lost.l0, if_pos (by omega), if_pos (by omega), btN hil, if_neg (fun h => e ((byte45 _).1 h)), gw1 (by omega)]
  rw [lostB_mem]
  exact (hl s.size 0 (by omega)).same fun k => rfl
theorem ref_Of20 (s t : ByteArray) (i : Int) (hs : s.size ≤ 1000000000) : Gives (fun k => sennitref20_Of.f k s t i) (ofB i s) := by
  refine Gives.last0 (ref_Lost20 s t hs) fun k hk => ?_
  show sennitref20_Of.f k s t i = _
  rw [sennitref20_Of.f]
  by_cases h0 : i < 0
  · rw [if_pos h0, ofB, decide_eq_false (show ¬ 0 ≤ i by omega)]; rfl
  · rw [if_neg h0]
    by_cases h1 : i ≥ (s.size : Int)
    · rw [if_pos h1, ofB, decide_eq_false (show ¬ i < (s.size : Int) by omega)]; simp
    · rw [if_neg h1, if_pos (by omega), if_pos (by omega), hk, Option.bind_some, ofB, decide_eq_true (show 0 ≤ i by omega), decide_eq_true (show i < (s.size : Int) by omega), Bool.true_and, Bool.true_and]
      by_cases h2 : bt s i = 45
      · rw [if_pos h2, decide_eq_true h2, Bool.true_or]
      · rw [if_neg h2, decide_eq_false h2, Bool.false_or]
        by_cases h3 : bt s i = 32
        · rw [if_pos h3, decide_eq_true h3, Bool.true_and]
        · rw [if_neg h3, decide_eq_false h3, Bool.false_and]
section
variable {R : List ApiRow}
theorem ref_Column20 (i : Int) (hR : R.length ≤ 100000) (hz : ∀ x ∈ R, x.f0.size ≤ 1000000000) : Gives (fun k => sennitref20_Column.f k R i) ((R.filter (fun x => ofB i x.f0)).map (·.f1)) := by
  have hl : ∀ (r a : Nat) (out : List ByteArray), a + r = R.length → out.length ≤ a → Gives (fun k => sennitref20_Column.l0 k R i out (a : Int)) (out ++ ((R.drop a).filter (fun x => ofB i x.f0)).map (·.f1)) := by
    intro r
    induction r with
    | zero =>
      intro a out ha ho
      refine Gives.of fun k => ?_
      show sennitref20_Column.l0 (k + 1) R i out (a : Int) = _
      rw [sennitref20_Column.l0, if_neg (by omega), List.drop_of_length_le (by omega)]
      simp
    | succ r ih =>
      intro a out ha ho
      have haR : a < R.length := by omega
      have e : rd_T37 R (a : Int) = R[a] := getN haR
      have ho20 := ref_Of20 R[a].f0 R[a].f1 i (hz _ (List.getElem_mem _))
      rw [dropCons haR]
      cases hb : ofB i R[a].f0 with
      | true =>
        rw [List.filter_cons_of_pos (by exact hb), List.map_cons]
        have := ih (a + 1) (out ++ [R[a].f1]) (by omega) (by simp; omega)
        rw [List.append_assoc, List.singleton_append] at this
        refine Gives.call ho20 this fun k hk => ?_
        show sennitref20_Column.l0 (k + 1) R i out (a : Int) = _
        have hk' : sennitref20_Of.f k R[a].f0 R[a].f1 i = some true := by rw [← hb]; exact hk
        rw [sennitref20_Column.l0, if_pos (by omega), if_pos (by omega), e, hk', Option.bind_some, if_pos rfl, if_pos (by omega), gw1 (by omega)]
      | false =>
        rw [List.filter_cons_of_neg (by rw [hb]; decide)]
        refine Gives.call ho20 (ih (a + 1) out (by omega) (by omega)) fun k hk => ?_
        show sennitref20_Column.l0 (k + 1) R i out (a : Int) = _
        have hk' : sennitref20_Of.f k R[a].f0 R[a].f1 i = some false := by rw [← hb]; exact hk
        rw [sennitref20_Column.l0, if_pos (by omega), if_pos (by omega), e, hk', Option.bind_some, if_neg (by decide), gw1 (by omega)]
  have := hl R.length 0 [] (by omega) (by simp)
  exact this.same fun k => rfl
theorem ref_Result20 (hR : R.length ≤ 100000) (hz : ∀ x ∈ R, x.f0.size ≤ 1000000000) : Gives (fun k => sennitref20_Result.f k R) ((R.filter (fun x => !lostB x.f0)).map (·.f1)) := by
  have hl : ∀ (r a : Nat) (out : List ByteArray), a + r = R.length → out.length ≤ a → Gives (fun k => sennitref20_Result.l0 k R out (a : Int)) (out ++ ((R.drop a).filter (fun x => !lostB x.f0)).map (·.f1)) := by
    intro r
    induction r with
    | zero =>
      intro a out ha ho
      refine Gives.of fun k => ?_
      show sennitref20_Result.l0 (k + 1) R out (a : Int) = _
      rw [sennitref20_Result.l0, if_neg (by omega), List.drop_of_length_le (by omega)]
      simp
    | succ r ih =>
      intro a out ha ho
      have haR : a < R.length := by omega
      have e : rd_T37 R (a : Int) = R[a] := getN haR
      have ho20 := ref_Lost20 R[a].f0 R[a].f1 (hz _ (List.getElem_mem _))
      rw [dropCons haR]
      cases hb : lostB R[a].f0 with
      | false =>
        rw [List.filter_cons_of_pos (by rw [hb]; rfl), List.map_cons]
        have := ih (a + 1) (out ++ [R[a].f1]) (by omega) (by simp; omega)
        rw [List.append_assoc, List.singleton_append] at this
        refine Gives.call ho20 this fun k hk => ?_
        show sennitref20_Result.l0 (k + 1) R out (a : Int) = _
        have hk' : sennitref20_Lost.f k R[a].f0 R[a].f1 = some false := by rw [← hb]; exact hk
        rw [sennitref20_Result.l0, if_pos (by omega), if_pos (by omega), e, hk', Option.bind_some, if_neg (by decide), if_pos (by omega), gw1 (by omega)]
      | true =>
        rw [List.filter_cons_of_neg (by rw [hb]; decide)]
        refine Gives.call ho20 (ih (a + 1) out (by omega) (by omega)) fun k hk => ?_
        show sennitref20_Result.l0 (k + 1) R out (a : Int) = _
        have hk' : sennitref20_Lost.f k R[a].f0 R[a].f1 = some true := by rw [← hb]; exact hk
        rw [sennitref20_Result.l0, if_pos (by omega), if_pos (by omega), e, hk', Option.bind_some, if_pos rfl, gw1 (by omega)]
  have := hl R.length 0 [] (by omega) (by simp)
  exact this.same fun k => rfl
theorem col_f (i : Int) (hR : R.length ≤ 1000000000) (hz : ∀ x ∈ R, x.f0.size ≤ 1000000000) : table_Column.f R i = some ((R.filter (fun x => ofB i x.f0)).map (·.f1)) := by
  rw [table_Column.f, if_pos ⟨hR, fun x hx => by have := hz x hx; omega⟩]
theorem res_f (hR : R.length ≤ 1000000000) (hz : ∀ x ∈ R, x.f0.size ≤ 1000000000) : table_Result.f R = some ((R.filter (fun x => !lostB x.f0)).map (·.f1)) := by
  rw [table_Result.f, if_pos ⟨hR, fun x hx => by have := hz x hx; omega⟩]
theorem rows20_l0 (hR : R.length ≤ 40) (i : Int) : ∀ (r a : Nat), a + r = R.length → (∀ x ∈ R.take a, x.f0.size ≤ 40) → Gives (fun k => sennitlaw20_TableRows.l0 k R i true (a : Int)) true := by
  intro r
  induction r with
  | zero =>
    intro a ha hz
    rw [List.take_of_length_le (by omega)] at hz
    have hz2 : ∀ x ∈ R, x.f0.size ≤ 1000000000 := fun x hx => by have := hz x hx; omega
    have c1 := col_f i (by omega) hz2
    have c2 := ref_Column20 i (by omega) hz2
    have c3 := res_f (by omega) hz2
    have c4 := ref_Result20 (by omega) hz2
    have l1 : ((R.filter (fun x => ofB i x.f0)).map (·.f1)).length ≤ 1000000000 := by
      rw [List.length_map]; have := List.length_filter_le (fun x : ApiRow => ofB i x.f0) R; omega
    have l2 : ((R.filter (fun x => !lostB x.f0)).map (·.f1)).length ≤ 1000000000 := by
      rw [List.length_map]; have := List.length_filter_le (fun x : ApiRow => !lostB x.f0) R; omega
    obtain ⟨C, hC⟩ : ∃ C, (R.filter (fun x => ofB i x.f0)).map (·.f1) = C := ⟨_, rfl⟩
    obtain ⟨D, hD⟩ : ∃ D, (R.filter (fun x => !lostB x.f0)).map (·.f1) = D := ⟨_, rfl⟩
    rw [hC] at c1 c2 l1
    rw [hD] at c3 c4 l2
    have s1 := (ref_same01 C C l1).eq (decide_eq_true rfl)
    have s2 := (ref_same01 D D l2).eq (decide_eq_true rfl)
    obtain ⟨K1, h1⟩ := c2
    obtain ⟨K2, h2⟩ := s1
    obtain ⟨K3, h3⟩ := c4
    obtain ⟨K4, h4⟩ := s2
    refine ⟨K1 + K2 + K3 + K4 + 1, fun k hk => ?_⟩
    obtain ⟨j, rfl⟩ : ∃ j, k = j + 1 := ⟨k - 1, by omega⟩
    have e1 : sennitref20_Column.f j R i = some C := h1 j (by omega)
    have e2 : sennitref01_Same.f j C C = some true := h2 j (by omega)
    have e3 : sennitref20_Result.f j R = some D := h3 j (by omega)
    have e4 : sennitref01_Same.f j D D = some true := h4 j (by omega)
    show sennitlaw20_TableRows.l0 (j + 1) R i true (a : Int) = _
    rw [sennitlaw20_TableRows.l0, if_neg (by omega), if_pos rfl, c1, Option.bind_some, e1, Option.bind_some, e2, Option.bind_some, if_pos rfl, c3, Option.bind_some, e3, Option.bind_some, e4, Option.bind_some]
  | succ r ih =>
    intro a ha hz
    have haR : a < R.length := by omega
    have e : rd_T37 R (a : Int) = R[a] := getN haR
    by_cases h : R[a].f0.size ≤ 40
    · have hL := ref_Lost20 R[a].f0 R[a].f1 (by omega)
      have := ih (a + 1) (by omega) (fun x hx => by
        rw [← List.take_append_getElem haR] at hx
        rcases List.mem_append.1 hx with hx | hx
        · exact hz x hx
        · rw [List.mem_singleton.1 hx]; exact h)
      refine Gives.call hL this fun k hk => ?_
      show sennitlaw20_TableRows.l0 (k + 1) R i true (a : Int) = _
      rw [sennitlaw20_TableRows.l0, if_pos (by omega), if_pos (by omega), e, if_neg (by omega), show table_Lost.f R[a].f0 R[a].f1 = some (lostB R[a].f0) from rfl, Option.bind_some, hk, Option.bind_some, if_neg (by simp), gw1 (by omega)]
    · refine Gives.of fun k => ?_
      show sennitlaw20_TableRows.l0 (k + 1) R i true (a : Int) = _
      rw [sennitlaw20_TableRows.l0, if_pos (by omega), if_pos (by omega), e, if_pos (by omega)]
theorem rows20 (i : Int) : Gives (fun k => sennitlaw20_TableRows.f k R i) true := by
  by_cases h : R.length ≤ 40
  · refine (rows20_l0 h i R.length 0 (by omega) (by simp)).same fun k => ?_
    show sennitlaw20_TableRows.f k R i = _
    rw [sennitlaw20_TableRows.f, awake20, Option.bind_some, if_neg (by omega)]; rfl
  · refine Gives.pure fun k => ?_
    show sennitlaw20_TableRows.f k R i = _
    rw [sennitlaw20_TableRows.f, awake20, Option.bind_some, if_pos (by omega)]
end
theorem law_TableRows (W : World) (A0 : Option Addr) (c0 : Nat) (l0 : List ApiRow) (hr0 : Kd.C k37 W A0 l0.length l0) (hc0 : l0.length ≤ c0) (g0 : l0.length * 32 ≤ 140737488351232 ∧ ∀ y ∈ l0, (((fun x : S37 => (x.f0, x.f1)) y).1.size ≤ 140737488351232) ∧ (((fun x : S37 => (x.f0, x.f1)) y).2.size ≤ 140737488351232)) (x1 : Int) (g1 : (Lit.int .i64 x1).wf = true) :
    Calls Try.prog 12 #[.slice A0 l0.length c0, .int .i64 x1] W fun e w' => e = .returned (.bool true) ∧ Below W.heap.size W w' := by
  obtain ⟨k, hk⟩ := rows20 (R := l0) x1
  exact sennitlaw20_TableRows.calls k A0 c0 l0 x1 true W hr0 hc0 (hk k (Nat.le_refl _))
end Go.Proofs.Ytnlekganlliikaa.X
