/-
  sennitlaw03.LcsEnds: by hand.
-/
import Derived.Test.YtkakcefekabmhaaXLcsB
import Derived.BigRegion
namespace Go.Proofs.Ytkakcefekabmhaa.X
open Go.RowKit Go.Proofs.YtkakcefekabmhaaW.PrintWords Go.Proofs.YtkakcefekabmhaaW.PrintLast Go.Proofs.YtkakcefekabmhaaW.PrintMore
set_option linter.unusedVariables false
set_option linter.unusedSimpArgs false

theorem matchFrom_prefix (a b : List Int) : ∀ (P : List Int) (j i : Nat), i < P.length → (matchFrom (P ++ a) (P ++ b) j)[i]? = some (((j + i : Nat)) : Int)
  | [], j, i, h => by simp at h
  | p :: P, j, 0, h => by
    rw [List.cons_append, List.cons_append, matchFrom_cons, if_pos rfl]
    simp
  | p :: P, j, i + 1, h => by
    rw [List.cons_append, List.cons_append, matchFrom_cons, if_pos rfl, List.getElem?_cons_succ, matchFrom_prefix a b P (j + 1) i (by simpa using h)]
    congr 2
    omega
theorem matchOf_prefix (a b P : List Int) {i : Nat} (h : i < P.length) : (matchOf (P ++ a) (P ++ b))[i]? = some (i : Int) := by
  have := matchFrom_prefix a b P 0 i h
  simpa [matchOf] using this
theorem lcs_ends (a b P Q : List Int) : lcsL (P ++ (a ++ Q)) (P ++ (b ++ Q)) = P.length + lcsL a b + Q.length := by
  rw [lcsL_append_left, lcsL_append_right]; omega

theorem both_calls (A0 : Option Addr) (c0 : Nat) (l0 : List Int) (A1 : Option Addr) (c1 : Nat) (l1 : List Int) (w : World) (hr0 : Kd.C (Kd.int .i64) w A0 l0.length l0) (hc0 : l0.length ≤ c0) (hr1 : Kd.C (Kd.int .i64) w A1 l1.length l1) (hc1 : l1.length ≤ c1) (h0 : l0.length ≤ 1000) (h1 : l1.length ≤ 1000) :
    Calls Try.prog 24 #[.slice A0 l0.length c0, .slice A1 l1.length c1] w fun e w' => ∃ (A : Option Addr) (c : Nat), e = .returned (.slice A (l0 ++ l1).length c) ∧ Aside0 (Kd.R (Kd.int .i64) 3 w' w.heap.size (fun _ => True) (.slice A (l0 ++ l1).length c) (l0 ++ l1)) ∧ Aside0 (Below w.heap.size w w') := by
  refine (sennitlaw03_both.calls A0 c0 l0 A1 c1 l1 _ w hr0 hc0 hr1 hc1 (both_gives h0 h1)).mono ?_
  rintro e w' ⟨v, rfl, ho, hb⟩
  obtain ⟨A, c, rfl⟩ := Kd.R_slice ho
  exact ⟨A, c, rfl, ⟨ho⟩, ⟨hb⟩⟩

set_option maxRecDepth 100000 in
set_option maxHeartbeats 4000000 in
theorem law_LcsEnds (W : World) (A0 : Option Addr) (c0 : Nat) (l0 : List Int) (hr0 : Kd.C (Kd.int .i64) W A0 l0.length l0) (hc0 : l0.length ≤ c0) (g0 : l0.length * 8 ≤ 140737488351232 ∧ ∀ y ∈ l0, (Lit.int .i64 y).wf = true) (A1 : Option Addr) (c1 : Nat) (l1 : List Int) (hr1 : Kd.C (Kd.int .i64) W A1 l1.length l1) (hc1 : l1.length ≤ c1) (g1 : l1.length * 8 ≤ 140737488351232 ∧ ∀ y ∈ l1, (Lit.int .i64 y).wf = true) (cs2 : Array Value) (y2 : ((List Int) × (List Int))) (hk2 : Kd.K (Kd.pair (Kd.slice 3 (Kd.int .i64)) (Kd.slice 3 (Kd.int .i64))) W y2 cs2.toList) (g2 : (y2.1.length * 8 ≤ 140737488351232 ∧ ∀ y ∈ y2.1, (Lit.int .i64 y).wf = true) ∧ (y2.2.length * 8 ≤ 140737488351232 ∧ ∀ y ∈ y2.2, (Lit.int .i64 y).wf = true)) :
    Calls Try.prog 7 #[.slice A0 l0.length c0, .slice A1 l1.length c1, .agg cs2] W fun e w' => e = .returned (.bool true) ∧ Below W.heap.size W w' := by
  clear g0 g1 g2
  obtain ⟨P, Q⟩ := y2
  obtain ⟨ca, cb, hcs, ⟨E0, e0, rfl, he0, hE0⟩, ⟨E1, e1, rfl, he1, hE1⟩⟩ := hk2
  obtain rfl : cs2 = #[.slice E0 P.length e0, .slice E1 Q.length e1] := by cases cs2; simpa using hcs
  clear hcs
  have HR0 := Aside0.mk hr0
  have HC0 := Aside0.mk hc0
  have HR1 := Aside0.mk hr1
  have HC1 := Aside0.mk hc1
  have HE0 : Aside0 (Kd.C (Kd.int .i64) W E0 P.length P) := Aside0.mk hE0
  have HE1 : Aside0 (Kd.C (Kd.int .i64) W E1 Q.length Q) := Aside0.mk hE1
  have He0 := Aside0.mk he0
  have He1 := Aside0.mk he1
  clear hr0 hc0 hr1 hc1 hE0 hE1 he0 he1
  go_enter Try.func7, Try.ntmps7
  go_wp2_with fail
  refine (awake_calls _).mono ?_
  rintro e w1 ⟨rfl, hb⟩
  have HX : Aside0 (w1.heap[W.heap.size]? = some (.cells #[.slice E0 P.length e0, .slice E1 Q.length e1] 37 (0, 0))) := ⟨(hb.block _ (by simp)).trans (blk_new _ _)⟩
  have HB1 : Aside0 (Below W.heap.size W w1) := ⟨(below_alloc (Below.refl _ _) _).trans (hb.mono (by simp))⟩
  clear hb
  have x0 : w1.cell? ⟨W.heap.size, 0, none⟩ = some (.slice E0 P.length e0) := cell_blk HX.out rfl
  have x1 : w1.cell? ⟨W.heap.size, 1, none⟩ = some (.slice E1 Q.length e1) := cell_blk HX.out rfl
  by_cases hl : l0.length ≤ 40 ∧ l1.length ≤ 40 ∧ P.length ≤ 20 ∧ Q.length ≤ 20
  · obtain ⟨hl0, hl1, hlP, hlQ⟩ := hl
    have b1 : decide ((40 : Int) < (l0.length : Int)) = false := decide_eq_false (by omega)
    have b2 : decide (40 < l0.length) = false := decide_eq_false (by omega)
    have b3 : decide ((40 : Int) < (l1.length : Int)) = false := decide_eq_false (by omega)
    have b4 : decide (40 < l1.length) = false := decide_eq_false (by omega)
    have b5 : decide ((20 : Int) < (P.length : Int)) = false := decide_eq_false (by omega)
    have b6 : decide (20 < P.length) = false := decide_eq_false (by omega)
    have b7 : decide ((20 : Int) < (Q.length : Int)) = false := decide_eq_false (by omega)
    have b8 : decide (20 < Q.length) = false := decide_eq_false (by omega)
    go_wp2
    refine start_ (n := 8) (S := fun w' => w'.cell? ⟨W.heap.size, 0, none⟩ = some (.slice E0 P.length e0) ∧ w'.cell? ⟨W.heap.size, 1, none⟩ = some (.slice E1 Q.length e1)) (ds := []) #[false, false, false, false, false, false, false, false] (by kernel_rfl) rfl rfl ⟨x0, x1⟩ (fun hHeld => ?_)
    refine pure_ (i := 0) (N := some 36) (v := ?_) (a' := ?_) #[true, false, false, false, false, false, false, false] rfl rfl (by kernel_rfl) (fun _ _ _ h => h) (Or.inl ⟨by rfl, ?_⟩) ?_ ?_
    rotate_left
    · intro w'
      go_simp
      with_reducible rfl
    rotate_left
    · simp only [Act.put, List.setIfInBounds_toArray, List.set_cons_zero, List.set_cons_succ, i64_w, i32_w]
      rfl
    refine pure_ (i := 2) (N := some 38) (v := ?_) (a' := ?_) #[true, false, true, false, false, false, false, false] rfl rfl (by kernel_rfl) (fun _ _ _ h => h) (Or.inl ⟨by rfl, ?_⟩) ?_ ?_
    rotate_left
    · intro w'
      go_simp
      with_reducible rfl
    rotate_left
    · simp only [Act.put, List.setIfInBounds_toArray, List.set_cons_zero, List.set_cons_succ, i64_w, i32_w]
      rfl
    refine pure_ (i := 3) (N := some 39) (v := ?_) (a' := ?_) #[true, false, true, true, false, false, false, false] rfl rfl (by kernel_rfl) (fun _ _ _ h => h) (Or.inl ⟨by rfl, ?_⟩) ?_ ?_
    rotate_left
    · intro w'
      go_simp
      with_reducible rfl
    rotate_left
    · simp only [Act.put, List.setIfInBounds_toArray, List.set_cons_zero, List.set_cons_succ, i64_w, i32_w]
      rfl
    refine take_ (i := 1) (N := some 37) (v := ?_) (a' := ?_) #[true, true, true, true, false, false, false, false] rfl rfl (by kernel_rfl) (fun _ _ _ h => h) (Or.inl ⟨by rfl, ?_⟩) hHeld ?_ ?_
    rotate_left
    · rintro w' ⟨s0, s1⟩
      go_simp
      with_reducible rfl
    rotate_left
    · simp only [Act.put, List.setIfInBounds_toArray, List.set_cons_zero, List.set_cons_succ, i64_w, i32_w]
      rfl
    refine take_ (i := 4) (N := some 40) (v := ?_) (a' := ?_) #[true, true, true, true, true, false, false, false] rfl rfl (by kernel_rfl) (fun _ _ _ h => h) (Or.inl ⟨by rfl, ?_⟩) hHeld ?_ ?_
    rotate_left
    · rintro w' ⟨s0, s1⟩
      go_simp
      with_reducible rfl
    rotate_left
    · simp only [Act.put, List.setIfInBounds_toArray, List.set_cons_zero, List.set_cons_succ, i64_w, i32_w]
      rfl
    refine one_ (i := 5) (N := some 41) #[true, true, true, true, true, true, false, false] rfl rfl (by kernel_rfl) (by decide) (fun K hK => ?_)
    refine goes_ Try.func24 (by kernel_rfl) rfl #[.slice A0 l0.length c0, .slice E1 Q.length e1] (by rfl) rfl rfl (by simp only [List.map_toArray, List.map_cons, List.map_nil]; rfl) ?_
    with_reducible refine (both_calls A0 c0 l0 E1 e1 Q _ (Kd.C_below HR0.out HB1.out.drew) HC0.out (Kd.C_below HE1.out HB1.out.drew) He1.out (by omega) (by omega)).mono ?_
    rintro e w2 ⟨A2, c2, rfl, HO2, HB2⟩
    refine ⟨_, rfl, ?_⟩
    have y0 : w2.cell? ⟨W.heap.size, 0, none⟩ = some (.slice E0 P.length e0) := (HB2.out.cell (World.block_lt_of_cell? _ _ x0)).trans x0
    have y1 : w2.cell? ⟨W.heap.size, 1, none⟩ = some (.slice E1 Q.length e1) := (HB2.out.cell (World.block_lt_of_cell? _ _ x1)).trans x1
    have HB2W : Aside0 (Below W.heap.size W w2) := ⟨below_far HB1.out.drew HB2.out⟩
    refine hK.out _ _ ⟨y0, y1⟩ (fun hHeld => ?_)
    clear hK K
    refine norm_ (a' := ?_) ?_ ?_
    rotate_left
    · show Act.put _ (some 41) _ = _
      simp only [Act.put, List.setIfInBounds_toArray, List.set_cons_zero, List.set_cons_succ, i64_w, i32_w]
      rfl
    refine one_ (i := 6) (N := some 42) #[true, true, true, true, true, true, true, false] rfl rfl (by kernel_rfl) (by decide) (fun K hK => ?_)
    refine goes_ Try.func24 (by kernel_rfl) rfl #[.slice E0 P.length e0, .slice A2 (l0 ++ Q).length c2] (by rfl) rfl rfl (by simp only [List.map_toArray, List.map_cons, List.map_nil]; rfl) ?_
    with_reducible refine (both_calls E0 e0 P A2 c2 (l0 ++ Q) _ (Kd.C_below HE0.out HB2W.out) He0.out (Kd.R_reads' HO2.out).2.2 (Kd.R_reads' HO2.out).2.1 (by omega) (by rw [List.length_append]; omega)).mono ?_
    rintro e w3 ⟨A3, c3, rfl, HO3, HB3⟩
    refine ⟨_, rfl, ?_⟩
    have z0 : w3.cell? ⟨W.heap.size, 0, none⟩ = some (.slice E0 P.length e0) := (HB3.out.cell (World.block_lt_of_cell? _ _ y0)).trans y0
    have z1 : w3.cell? ⟨W.heap.size, 1, none⟩ = some (.slice E1 Q.length e1) := (HB3.out.cell (World.block_lt_of_cell? _ _ y1)).trans y1
    have HB3W : Aside0 (Below W.heap.size W w3) := ⟨below_far HB2W.out HB3.out⟩
    refine hK.out _ _ ⟨z0, z1⟩ (fun hHeld => ?_)
    clear hK K
    refine norm_ (a' := ?_) ?_ ?_
    rotate_left
    · show Act.put _ (some 42) _ = _
      simp only [Act.put, List.setIfInBounds_toArray, List.set_cons_zero, List.set_cons_succ, i64_w, i32_w]
      rfl
    refine pure_ (i := 7) (N := some 8) (v := ?_) (a' := ?_) #[true, true, true, true, true, true, true, true] rfl rfl (by kernel_rfl) (fun _ _ _ h => h) (Or.inl ⟨by rfl, ?_⟩) ?_ ?_
    rotate_left
    · intro w'
      go_simp
      with_reducible rfl
    rotate_left
    · simp only [Act.put, List.setIfInBounds_toArray, List.set_cons_zero, List.set_cons_succ, i64_w, i32_w]
      rfl
    refine done_ (by kernel_rfl) ?_

    clear x0 x1 y0 y1
    go_wp2
    refine start_ (n := 8) (S := fun w' => w'.cell? ⟨W.heap.size, 0, none⟩ = some (.slice E0 P.length e0) ∧ w'.cell? ⟨W.heap.size, 1, none⟩ = some (.slice E1 Q.length e1)) (ds := []) #[false, false, false, false, false, false, false, false] (by kernel_rfl) rfl rfl ⟨z0, z1⟩ (fun hHeld => ?_)
    refine pure_ (i := 0) (N := some 43) (v := ?_) (a' := ?_) #[true, false, false, false, false, false, false, false] rfl rfl (by kernel_rfl) (fun _ _ _ h => h) (Or.inl ⟨by rfl, ?_⟩) ?_ ?_
    rotate_left
    · intro w'
      go_simp
      with_reducible rfl
    rotate_left
    · simp only [Act.put, List.setIfInBounds_toArray, List.set_cons_zero, List.set_cons_succ, i64_w, i32_w]
      rfl
    refine pure_ (i := 2) (N := some 45) (v := ?_) (a' := ?_) #[true, false, true, false, false, false, false, false] rfl rfl (by kernel_rfl) (fun _ _ _ h => h) (Or.inl ⟨by rfl, ?_⟩) ?_ ?_
    rotate_left
    · intro w'
      go_simp
      with_reducible rfl
    rotate_left
    · simp only [Act.put, List.setIfInBounds_toArray, List.set_cons_zero, List.set_cons_succ, i64_w, i32_w]
      rfl
    refine pure_ (i := 3) (N := some 46) (v := ?_) (a' := ?_) #[true, false, true, true, false, false, false, false] rfl rfl (by kernel_rfl) (fun _ _ _ h => h) (Or.inl ⟨by rfl, ?_⟩) ?_ ?_
    rotate_left
    · intro w'
      go_simp
      with_reducible rfl
    rotate_left
    · simp only [Act.put, List.setIfInBounds_toArray, List.set_cons_zero, List.set_cons_succ, i64_w, i32_w]
      rfl
    refine take_ (i := 1) (N := some 44) (v := ?_) (a' := ?_) #[true, true, true, true, false, false, false, false] rfl rfl (by kernel_rfl) (fun _ _ _ h => h) (Or.inl ⟨by rfl, ?_⟩) hHeld ?_ ?_
    rotate_left
    · rintro w' ⟨s0, s1⟩
      go_simp
      with_reducible rfl
    rotate_left
    · simp only [Act.put, List.setIfInBounds_toArray, List.set_cons_zero, List.set_cons_succ, i64_w, i32_w]
      rfl
    refine take_ (i := 4) (N := some 47) (v := ?_) (a' := ?_) #[true, true, true, true, true, false, false, false] rfl rfl (by kernel_rfl) (fun _ _ _ h => h) (Or.inl ⟨by rfl, ?_⟩) hHeld ?_ ?_
    rotate_left
    · rintro w' ⟨s0, s1⟩
      go_simp
      with_reducible rfl
    rotate_left
    · simp only [Act.put, List.setIfInBounds_toArray, List.set_cons_zero, List.set_cons_succ, i64_w, i32_w]
      rfl
    refine one_ (i := 5) (N := some 48) #[true, true, true, true, true, true, false, false] rfl rfl (by kernel_rfl) (by decide) (fun K hK => ?_)
    refine goes_ Try.func24 (by kernel_rfl) rfl #[.slice A1 l1.length c1, .slice E1 Q.length e1] (by rfl) rfl rfl (by simp only [List.map_toArray, List.map_cons, List.map_nil]; rfl) ?_
    with_reducible refine (both_calls A1 c1 l1 E1 e1 Q _ (Kd.C_below HR1.out HB3W.out.drew) HC1.out (Kd.C_below HE1.out HB3W.out.drew) He1.out (by omega) (by omega)).mono ?_
    rintro e w4 ⟨A2b, c2b, rfl, HO2b, HB2b⟩
    refine ⟨_, rfl, ?_⟩
    have y0b : w4.cell? ⟨W.heap.size, 0, none⟩ = some (.slice E0 P.length e0) := (HB2b.out.cell (World.block_lt_of_cell? _ _ z0)).trans z0
    have y1b : w4.cell? ⟨W.heap.size, 1, none⟩ = some (.slice E1 Q.length e1) := (HB2b.out.cell (World.block_lt_of_cell? _ _ z1)).trans z1
    have HB2Wb : Aside0 (Below W.heap.size W w4) := ⟨below_far HB3W.out.drew HB2b.out⟩
    refine hK.out _ _ ⟨y0b, y1b⟩ (fun hHeld => ?_)
    clear hK K
    refine norm_ (a' := ?_) ?_ ?_
    rotate_left
    · show Act.put _ (some 48) _ = _
      simp only [Act.put, List.setIfInBounds_toArray, List.set_cons_zero, List.set_cons_succ, i64_w, i32_w]
      rfl
    refine one_ (i := 6) (N := some 49) #[true, true, true, true, true, true, true, false] rfl rfl (by kernel_rfl) (by decide) (fun K hK => ?_)
    refine goes_ Try.func24 (by kernel_rfl) rfl #[.slice E0 P.length e0, .slice A2b (l1 ++ Q).length c2b] (by rfl) rfl rfl (by simp only [List.map_toArray, List.map_cons, List.map_nil]; rfl) ?_
    with_reducible refine (both_calls E0 e0 P A2b c2b (l1 ++ Q) _ (Kd.C_below HE0.out HB2Wb.out) He0.out (Kd.R_reads' HO2b.out).2.2 (Kd.R_reads' HO2b.out).2.1 (by omega) (by rw [List.length_append]; omega)).mono ?_
    rintro e w5 ⟨A3b, c3b, rfl, HO3b, HB3b⟩
    refine ⟨_, rfl, ?_⟩
    have z0b : w5.cell? ⟨W.heap.size, 0, none⟩ = some (.slice E0 P.length e0) := (HB3b.out.cell (World.block_lt_of_cell? _ _ y0b)).trans y0b
    have z1b : w5.cell? ⟨W.heap.size, 1, none⟩ = some (.slice E1 Q.length e1) := (HB3b.out.cell (World.block_lt_of_cell? _ _ y1b)).trans y1b
    have HB3Wb : Aside0 (Below W.heap.size W w5) := ⟨below_far HB2Wb.out HB3b.out⟩
    refine hK.out _ _ ⟨z0b, z1b⟩ (fun hHeld => ?_)
    clear hK K
    refine norm_ (a' := ?_) ?_ ?_
    rotate_left
    · show Act.put _ (some 49) _ = _
      simp only [Act.put, List.setIfInBounds_toArray, List.set_cons_zero, List.set_cons_succ, i64_w, i32_w]
      rfl
    refine pure_ (i := 7) (N := some 9) (v := ?_) (a' := ?_) #[true, true, true, true, true, true, true, true] rfl rfl (by kernel_rfl) (fun _ _ _ h => h) (Or.inl ⟨by rfl, ?_⟩) ?_ ?_
    rotate_left
    · intro w'
      go_simp
      with_reducible rfl
    rotate_left
    · simp only [Act.put, List.setIfInBounds_toArray, List.set_cons_zero, List.set_cons_succ, i64_w, i32_w]
      rfl
    refine done_ (by kernel_rfl) ?_

    clear z0 z1 y0b y1b
    have X3 := Aside0.mk (Kd.R_below (Kd.R_drew HO3.out) HB2b.out)
    have HRx : Aside0 (Kd.C (Kd.int .i64) w5 A3 (P ++ (l0 ++ Q)).length (P ++ (l0 ++ Q))) := ⟨(Kd.R_reads' (Kd.R_below X3.out HB3b.out)).2.2⟩
    have hN := lcs_New_pair A3 c3 (P ++ (l0 ++ Q)) A3b c3b (P ++ (l1 ++ Q)) w5 HRx.out (Kd.R_reads' HO3.out).2.1 (Kd.R_reads' HO3b.out).2.2 (Kd.R_reads' HO3b.out).2.1 (by simp; omega) (by simp; omega)
    simp only [List.length_append] at hN
    go_wp2_with fail
    refine hN.mono ?_
    clear hN
    rintro e w6 ⟨g, d, rfl, HG, HP, HB6⟩
    go_wp2_with fail
    refine (pair_Match g _ _ d _ HP.out).mono ?_
    rintro e w7 ⟨vm, rfl, ho, hp7, hg7⟩
    obtain ⟨Am, cm, rfl⟩ := Kd.R_slice ho
    have hml : (matchOf (P ++ (l0 ++ Q)) (P ++ (l1 ++ Q))).length = P.length + (l0.length + Q.length) := by rw [show (matchOf (P ++ (l0 ++ Q)) (P ++ (l1 ++ Q))).length = (P ++ (l0 ++ Q)).length from matchFrom_length _ _ _]; simp
    have HML := Aside0.mk hml
    have hm := (Kd.R_reads' ho).2.2
    rw [hml] at hm ⊢
    have HM := Aside0.mk hm
    have HP7 := Aside0.mk hp7
    have HGW : Aside0 (W.heap.size ≤ g) := ⟨Nat.le_trans HB3Wb.out.size HG.out⟩
    have HB7 : Aside0 (Below W.heap.size W w7) := ⟨below_grown (below_far HB3Wb.out HB6.out) hg7 HGW.out (below_far HB3Wb.out HB6.out).size⟩
    have hne : ∀ j : Nat, some (⟨W.heap.size, j, none⟩ : Addr).block ≠ some g := fun j e => by
      have h := World.block_lt_of_cell? _ _ z0b
      have h2 := HG.out
      have := Option.some.inj e
      simp at this h
      omega
    have q0 : w7.cell? ⟨W.heap.size, 0, none⟩ = some (.slice E0 P.length e0) := hg7.cell ((HB6.out.cell (World.block_lt_of_cell? _ _ z0b)).trans z0b) (hne 0)
    have q1 : w7.cell? ⟨W.heap.size, 1, none⟩ = some (.slice E1 Q.length e1) := hg7.cell ((HB6.out.cell (World.block_lt_of_cell? _ _ z1b)).trans z1b) (hne 1)
    have HNE := Aside0.mk hne
    have Q0 := Aside0.mk q0
    have Q1 := Aside0.mk q1
    have hx := lcs_ends l0 l1 P Q
    have kl := lcsL_le_left l0 l1
    obtain ⟨n01, e01⟩ : ∃ n, ((lcsL l0 l1 : Nat) : Int) = n := ⟨_, rfl⟩
    have hXY : ((lcsL (P ++ (l0 ++ Q)) (P ++ (l1 ++ Q)) : Nat) : Int) = (P.length : Int) + n01 + (Q.length : Int) := by rw [hx]; omega
    have hn0 : 0 ≤ n01 := by omega
    have hn1 : n01 ≤ 40 := by omega
    have E01 := Aside0.mk e01
    have EXY := Aside0.mk hXY
    clear ho hp7 hg7 hm hml hne q0 q1 z0b z1b hx e01 hXY kl HB6 HP HRx X3
    go_wp2_with fail
    go_loopw [13] (fun s1 wx => ∃ (i : Nat), s1 = .int .i64 i ∧ i ≤ P.length ∧ Aside0 (Below w7.heap.size w7 wx)) (fun s1 _ => P.length - (intOf s1).toNat)
    case atStart => exact ⟨0, rfl, Nat.zero_le _, ⟨Below.refl _ _⟩⟩
    case round =>
      obtain ⟨i, rfl, hi, HW⟩ := hrel
      have q0 : wr.cell? ⟨W.heap.size, 0, none⟩ = some (.slice E0 P.length e0) := (HW.out.cell (World.block_lt_of_cell? _ _ Q0.out)).trans Q0.out
      have q1 : wr.cell? ⟨W.heap.size, 1, none⟩ = some (.slice E1 Q.length e1) := (HW.out.cell (World.block_lt_of_cell? _ _ Q1.out)).trans Q1.out
      by_cases hi' : i < P.length
      · have d1 : decide ((i : Int) < (P.length : Int)) = true := decide_eq_true (by omega)
        have d2 : decide (i < P.length) = true := decide_eq_true hi'
        have d3 : decide (((P.length + (l0.length + Q.length) : Nat) : Int) ≤ (i : Int)) = false := decide_eq_false (by omega)
        have d4 : decide (P.length + (l0.length + Q.length) ≤ i) = false := decide_eq_false (by omega)
        have d5 : decide ((P.length : Int) + ((l0.length : Int) + (Q.length : Int)) ≤ (i : Int)) = false := decide_eq_false (by omega)
        obtain ⟨am, rfl, km⟩ := elem_cell (xs := matchOf (P ++ (l0 ++ Q)) (P ++ (l1 ++ Q))) (i := i) (by rw [HML.out]; exact Kd.C_below HM.out HW.out) (matchOf_prefix _ _ P hi')
        have z : ((i : Int) != (i : Int)) = false := by simp
        go_wp2
        go_roundw
        case measure => simp [intOf]; omega
        case rel => exact ⟨i + 1, by simp, by omega, HW⟩
      · have d1 : decide ((i : Int) < (P.length : Int)) = false := decide_eq_false (by omega)
        have d2 : decide (i < P.length) = false := decide_eq_false hi'
        have HWr : Aside0 (Below W.heap.size W wr) := ⟨below_far HB7.out HW.out⟩
        have HPd : Aside0 (PairIn wr.drew g (P ++ (l0 ++ Q)) (P ++ (l1 ++ Q)) 1) := ⟨HP7.out.below HW.out.drew⟩
        have m0 : l0.length ≤ 2000 := by omega
        have m1 : l1.length ≤ 2000 := by omega
        have s0 : wrap64 ((P.length : Int) + n01) = (P.length : Int) + n01 ∧ IntKind.i64.wrap ((P.length : Int) + n01) = (P.length : Int) + n01 := ⟨w64 (by omega) (by omega), wi64 (by omega) (by omega)⟩
        have s1 : wrap64 ((P.length : Int) + n01 + (Q.length : Int)) = (P.length : Int) + n01 + (Q.length : Int) ∧ IntKind.i64.wrap ((P.length : Int) + n01 + (Q.length : Int)) = (P.length : Int) + n01 + (Q.length : Int) := by
          clear s0
          exact ⟨w64 (by omega) (by omega), wi64 (by omega) (by omega)⟩
        obtain ⟨sa, sb⟩ := s0
        obtain ⟨sc, sd⟩ := s1
        have zz : ((P.length : Int) + n01 + (Q.length : Int) == (P.length : Int) + n01 + (Q.length : Int)) = true := by simp
        go_wp2
        refine start_ (n := 18) (S := fun w' => w'.cell? ⟨W.heap.size, 0, none⟩ = some (.slice E0 P.length e0) ∧ w'.cell? ⟨W.heap.size, 1, none⟩ = some (.slice E1 Q.length e1)) (ds := []) #[false, false, false, false, false, false, false, false, false, false, false, false, false, false, false, false, false, false] (by kernel_rfl) rfl rfl ⟨q0, q1⟩ (fun hHeld => ?_)
        refine pure_ (i := 0) (N := some 77) (v := ?_) (a' := ?_) #[true, false, false, false, false, false, false, false, false, false, false, false, false, false, false, false, false, false] rfl rfl (by kernel_rfl) (fun _ _ _ h => h) (Or.inl ⟨by rfl, ?_⟩) ?_ ?_
        rotate_left
        · intro w'
          go_simp
          with_reducible rfl
        rotate_left
        · simp only [Act.put, List.setIfInBounds_toArray, List.set_cons_zero, List.set_cons_succ, i64_w, i32_w]
          rfl
        refine pure_ (i := 1) (N := some 78) (v := ?_) (a' := ?_) #[true, true, false, false, false, false, false, false, false, false, false, false, false, false, false, false, false, false] rfl rfl (by kernel_rfl) (fun _ _ _ h => h) (Or.inl ⟨by rfl, ?_⟩) ?_ ?_
        rotate_left
        · intro w'
          go_simp
          with_reducible rfl
        rotate_left
        · simp only [Act.put, List.setIfInBounds_toArray, List.set_cons_zero, List.set_cons_succ, i64_w, i32_w]
          rfl
        refine pure_ (i := 2) (N := some 79) (v := ?_) (a' := ?_) #[true, true, true, false, false, false, false, false, false, false, false, false, false, false, false, false, false, false] rfl rfl (by kernel_rfl) (fun _ _ _ h => h) (Or.inl ⟨by rfl, ?_⟩) ?_ ?_
        rotate_left
        · intro w'
          go_simp
          with_reducible rfl
        rotate_left
        · simp only [Act.put, List.setIfInBounds_toArray, List.set_cons_zero, List.set_cons_succ, i64_w, i32_w]
          rfl
        refine pure_ (i := 4) (N := some 81) (v := ?_) (a' := ?_) #[true, true, true, false, true, false, false, false, false, false, false, false, false, false, false, false, false, false] rfl rfl (by kernel_rfl) (fun _ _ _ h => h) (Or.inl ⟨by rfl, ?_⟩) ?_ ?_
        rotate_left
        · intro w'
          go_simp
          with_reducible rfl
        rotate_left
        · simp only [Act.put, List.setIfInBounds_toArray, List.set_cons_zero, List.set_cons_succ, i64_w, i32_w]
          rfl
        refine pure_ (i := 7) (N := some 84) (v := ?_) (a' := ?_) #[true, true, true, false, true, false, false, true, false, false, false, false, false, false, false, false, false, false] rfl rfl (by kernel_rfl) (fun _ _ _ h => h) (Or.inl ⟨by rfl, ?_⟩) ?_ ?_
        rotate_left
        · intro w'
          go_simp
          with_reducible rfl
        rotate_left
        · simp only [Act.put, List.setIfInBounds_toArray, List.set_cons_zero, List.set_cons_succ, i64_w, i32_w]
          rfl
        refine pure_ (i := 8) (N := some 85) (v := ?_) (a' := ?_) #[true, true, true, false, true, false, false, true, true, false, false, false, false, false, false, false, false, false] rfl rfl (by kernel_rfl) (fun _ _ _ h => h) (Or.inl ⟨by rfl, ?_⟩) ?_ ?_
        rotate_left
        · intro w'
          go_simp
          with_reducible rfl
        rotate_left
        · simp only [Act.put, List.setIfInBounds_toArray, List.set_cons_zero, List.set_cons_succ, i64_w, i32_w]
          rfl
        refine pure_ (i := 11) (N := some 88) (v := ?_) (a' := ?_) #[true, true, true, false, true, false, false, true, true, false, false, true, false, false, false, false, false, false] rfl rfl (by kernel_rfl) (fun _ _ _ h => h) (Or.inl ⟨by rfl, ?_⟩) ?_ ?_
        rotate_left
        · intro w'
          go_simp
          with_reducible rfl
        rotate_left
        · simp only [Act.put, List.setIfInBounds_toArray, List.set_cons_zero, List.set_cons_succ, i64_w, i32_w]
          rfl
        refine take_ (i := 5) (N := some 82) (v := ?_) (a' := ?_) #[true, true, true, false, true, true, false, true, true, false, false, true, false, false, false, false, false, false] rfl rfl (by kernel_rfl) (fun _ _ _ h => h) (Or.inl ⟨by rfl, ?_⟩) hHeld ?_ ?_
        rotate_left
        · rintro w' ⟨s0, s1⟩
          go_simp
          with_reducible rfl
        rotate_left
        · simp only [Act.put, List.setIfInBounds_toArray, List.set_cons_zero, List.set_cons_succ, i64_w, i32_w]
          rfl
        refine pure_ (i := 6) (N := some 83) (v := ?_) (a' := ?_) #[true, true, true, false, true, true, true, true, true, false, false, true, false, false, false, false, false, false] rfl rfl (by kernel_rfl) (fun _ _ _ h => h) (Or.inl ⟨by rfl, ?_⟩) ?_ ?_
        rotate_left
        · intro w'
          go_simp
          with_reducible rfl
        rotate_left
        · simp only [Act.put, List.setIfInBounds_toArray, List.set_cons_zero, List.set_cons_succ, i64_w, i32_w]
          rfl
        refine take_ (i := 12) (N := some 89) (v := ?_) (a' := ?_) #[true, true, true, false, true, true, true, true, true, false, false, true, true, false, false, false, false, false] rfl rfl (by kernel_rfl) (fun _ _ _ h => h) (Or.inl ⟨by rfl, ?_⟩) hHeld ?_ ?_
        rotate_left
        · rintro w' ⟨s0, s1⟩
          go_simp
          with_reducible rfl
        rotate_left
        · simp only [Act.put, List.setIfInBounds_toArray, List.set_cons_zero, List.set_cons_succ, i64_w, i32_w]
          rfl
        refine pure_ (i := 13) (N := some 90) (v := ?_) (a' := ?_) #[true, true, true, false, true, true, true, true, true, false, false, true, true, true, false, false, false, false] rfl rfl (by kernel_rfl) (fun _ _ _ h => h) (Or.inl ⟨by rfl, ?_⟩) ?_ ?_
        rotate_left
        · intro w'
          go_simp
          with_reducible rfl
        rotate_left
        · simp only [Act.put, List.setIfInBounds_toArray, List.set_cons_zero, List.set_cons_succ, i64_w, i32_w]
          rfl
        refine one_ (i := 3) (N := some 80) #[true, true, true, true, true, true, true, true, true, false, false, true, true, true, false, false, false, false] rfl rfl (by kernel_rfl) (by decide) (fun K hK => ?_)
        refine goes_ Try.func20 (by kernel_rfl) rfl #[.pointer (some ⟨g, 0, none⟩)] (by rfl) rfl rfl (by simp only [List.map_toArray, List.map_cons, List.map_nil]; rfl) ?_
        with_reducible refine (pair_Len g _ _ 1 _ HPd.out).mono ?_
        rintro e w8 ⟨rfl, hp8, hg8⟩
        refine ⟨_, rfl, ?_⟩
        have y0 : w8.cell? ⟨W.heap.size, 0, none⟩ = some (.slice E0 P.length e0) := hg8.cell q0 (HNE.out 0)
        have y1 : w8.cell? ⟨W.heap.size, 1, none⟩ = some (.slice E1 Q.length e1) := hg8.cell q1 (HNE.out 1)
        have HB8 : Aside0 (Below W.heap.size W w8) := ⟨below_grown HWr.out.drew hg8 HGW.out HWr.out.drew.size⟩
        clear hp8 hg8
        rw [EXY.out]
        refine hK.out _ _ ⟨y0, y1⟩ (fun hHeld => ?_)
        clear hK K
        refine norm_ (a' := ?_) ?_ ?_
        rotate_left
        · show Act.put _ (some 80) _ = _
          simp only [Act.put, List.setIfInBounds_toArray, List.set_cons_zero, List.set_cons_succ, i64_w, i32_w]
          rfl
        refine one_ (i := 9) (N := some 86) #[true, true, true, true, true, true, true, true, true, true, false, true, true, true, false, false, false, false] rfl rfl (by kernel_rfl) (by decide) (fun K hK => ?_)
        refine goes_ Try.func22 (by kernel_rfl) rfl #[.slice A0 l0.length c0, .slice A1 l1.length c1] (by rfl) rfl rfl (by simp only [List.map_toArray, List.map_cons, List.map_nil]; rfl) ?_
        with_reducible refine (long_short A0 c0 l0 A1 c1 l1 _ (Kd.C_below HR0.out HB8.out) HC0.out (Kd.C_below HR1.out HB8.out) HC1.out m0 m1 E01.out).mono ?_
        rintro e w9 ⟨rfl, HB9⟩
        refine ⟨_, rfl, ?_⟩
        have p0 : w9.cell? ⟨W.heap.size, 0, none⟩ = some (.slice E0 P.length e0) := (HB9.out.cell (World.block_lt_of_cell? _ _ y0)).trans y0
        have p1 : w9.cell? ⟨W.heap.size, 1, none⟩ = some (.slice E1 Q.length e1) := (HB9.out.cell (World.block_lt_of_cell? _ _ y1)).trans y1
        have HB9W : Aside0 (Below W.heap.size W w9) := ⟨below_far HB8.out HB9.out⟩
        refine hK.out _ _ ⟨p0, p1⟩ (fun hHeld => ?_)
        clear hK K
        refine norm_ (a' := ?_) ?_ ?_
        rotate_left
        · show Act.put _ (some 86) _ = _
          simp only [Act.put, List.setIfInBounds_toArray, List.set_cons_zero, List.set_cons_succ, i64_w, i32_w]
          rfl
        refine pure_ (i := 10) (N := some 87) (v := ?_) (a' := ?_) #[true, true, true, true, true, true, true, true, true, true, true, true, true, true, false, false, false, false] rfl rfl (by kernel_rfl) (fun _ _ _ h => h) (Or.inl ⟨by rfl, ?_⟩) ?_ ?_
        rotate_left
        · intro w'
          go_simp
          with_reducible rfl
        rotate_left
        · simp only [Act.put, List.setIfInBounds_toArray, List.set_cons_zero, List.set_cons_succ, i64_w, i32_w]
          rfl
        refine pure_ (i := 14) (N := some 91) (v := ?_) (a' := ?_) #[true, true, true, true, true, true, true, true, true, true, true, true, true, true, true, false, false, false] rfl rfl (by kernel_rfl) (fun _ _ _ h => h) (Or.inl ⟨by rfl, ?_⟩) ?_ ?_
        rotate_left
        · intro w'
          go_simp
          with_reducible rfl
        rotate_left
        · simp only [Act.put, List.setIfInBounds_toArray, List.set_cons_zero, List.set_cons_succ, i64_w, i32_w]
          rfl
        refine pure_ (i := 15) (N := some 92) (v := ?_) (a' := ?_) #[true, true, true, true, true, true, true, true, true, true, true, true, true, true, true, true, false, false] rfl rfl (by kernel_rfl) (fun _ _ _ h => h) (Or.inl ⟨by rfl, ?_⟩) ?_ ?_
        rotate_left
        · intro w'
          go_simp
          with_reducible rfl
        rotate_left
        · simp only [Act.put, List.setIfInBounds_toArray, List.set_cons_zero, List.set_cons_succ, i64_w, i32_w]
          rfl
        refine pure_ (i := 16) (N := some 93) (v := ?_) (a' := ?_) #[true, true, true, true, true, true, true, true, true, true, true, true, true, true, true, true, true, false] rfl rfl (by kernel_rfl) (fun _ _ _ h => h) (Or.inl ⟨by rfl, ?_⟩) ?_ ?_
        rotate_left
        · intro w'
          go_simp
          with_reducible rfl
        rotate_left
        · simp only [Act.put, List.setIfInBounds_toArray, List.set_cons_zero, List.set_cons_succ, i64_w, i32_w]
          rfl
        refine pure_ (i := 17) (N := some 6) (v := ?_) (a' := ?_) #[true, true, true, true, true, true, true, true, true, true, true, true, true, true, true, true, true, true] rfl rfl (by kernel_rfl) (fun _ _ _ h => h) (Or.inl ⟨by rfl, ?_⟩) ?_ ?_
        rotate_left
        · intro w'
          go_simp
          with_reducible rfl
        rotate_left
        · simp only [Act.put, List.setIfInBounds_toArray, List.set_cons_zero, List.set_cons_succ, i64_w, i32_w]
          rfl
        refine done_ (by kernel_rfl) ?_

        go_wp2
        go_ret
        exact ⟨rfl, HB9W.out⟩
  · have x0' := Aside0.mk x0
    by_cases h0 : 40 < l0.length
    · have b1 : decide ((40 : Int) < (l0.length : Int)) = true := decide_eq_true (by omega)
      have b2 : decide (40 < l0.length) = true := decide_eq_true (by omega)
      clear hl
      go_wp2
      go_ret
      exact ⟨rfl, HB1.out⟩
    · have b1 : decide ((40 : Int) < (l0.length : Int)) = false := decide_eq_false (by omega)
      have b2 : decide (40 < l0.length) = false := decide_eq_false (by omega)
      by_cases h1 : 40 < l1.length
      · have b3 : decide ((40 : Int) < (l1.length : Int)) = true := decide_eq_true (by omega)
        have b4 : decide (40 < l1.length) = true := decide_eq_true (by omega)
        clear hl
        go_wp2
        go_ret
        exact ⟨rfl, HB1.out⟩
      · have b3 : decide ((40 : Int) < (l1.length : Int)) = false := decide_eq_false (by omega)
        have b4 : decide (40 < l1.length) = false := decide_eq_false (by omega)
        by_cases h2 : 20 < P.length
        · have b5 : decide ((20 : Int) < (P.length : Int)) = true := decide_eq_true (by omega)
          have b6 : decide (20 < P.length) = true := decide_eq_true (by omega)
          clear hl
          go_wp2
          go_ret
          exact ⟨rfl, HB1.out⟩
        · have b5 : decide ((20 : Int) < (P.length : Int)) = false := decide_eq_false (by omega)
          have b6 : decide (20 < P.length) = false := decide_eq_false (by omega)
          have b7 : decide ((20 : Int) < (Q.length : Int)) = true := decide_eq_true (by omega)
          have b8 : decide (20 < Q.length) = true := decide_eq_true (by omega)
          clear hl
          go_wp2
          go_ret
          exact ⟨rfl, HB1.out⟩
end Go.Proofs.Ytkakcefekabmhaa.X
