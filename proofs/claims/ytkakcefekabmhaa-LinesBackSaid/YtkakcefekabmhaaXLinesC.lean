/-
  sennitlaw01.LinesOne: by hand.
-/
import Derived.Test.YtkakcefekabmhaaXLinesB
import Derived.BigRegion
namespace Go.Proofs.Ytkakcefekabmhaa.X
open Go.RowKit Go.Proofs.YtkakcefekabmhaaW.PrintWords Go.Proofs.YtkakcefekabmhaaW.PrintLast Go.Proofs.YtkakcefekabmhaaW.PrintMore
set_option linter.unusedVariables false
set_option linter.unusedSimpArgs false

/-- A step of a call that keeps the old: as seen from the law's world. -/
theorem far_ {W w w' : World} (h : Below W.heap.size W w) (hb : Below w.heap.size w w') : Below W.heap.size W w' := h.trans (hb.mono h.size)
/-- lines.Join of one list, the literal in a new block. -/
theorem join_lit (A : Option Addr) (c : Nat) (l : List ByteArray) (w : World) (hr : Kd.C Kd.string w A l.length l) (hc : l.length ≤ c) (h : l.length ≤ 1000) (hs : ∀ s ∈ l, s.size ≤ 1000) (g : Nat) (hg : g = w.heap.size) :
    Calls Try.prog 32 #[.slice (some ⟨g, 0, none⟩) 1 1] (w.alloc (.cells #[.slice A l.length c] 42)) fun e w' => ∃ v, e = .returned v ∧ Aside0 (Kd.R (Kd.int .u8) 5 w' w.heap.size (fun _ => True) v (bytesOf (allT l))) ∧ Aside0 (Below w.heap.size w w') := by
  subst hg
  have hblk := World.alloc_heap_new w (.cells #[.slice A l.length c] 42)
  have hbl := Below.alloc (Below.refl w.heap.size w) (Nat.le_refl _) (.cells #[.slice A l.length c] 42)
  have hK : (Kd.slice 9 Kd.string).K (w.alloc (.cells #[.slice A l.length c] 42)) l [.slice A l.length c] := ⟨A, c, rfl, hc, Kd.C_below hr hbl⟩
  have hC4 := C_blk (d := Kd.slice 9 Kd.string) (xs := [l]) (inner := [.slice A l.length c]) hblk (Reps.one hK (Reps.none _ _)) (by simp)
  refine (lines_Join.calls 2 _ 1 _ _ _ hC4 (by simp) (joinlines l h hs 2 (by omega))).mono ?_
  rintro e w' ⟨v, rfl, ho, hb⟩
  refine ⟨v, rfl, ⟨Kd.R_lower ho (by simp)⟩, ⟨hbl.trans (hb.mono (by simp))⟩⟩

theorem one_str (l : List ByteArray) : (strOfNums (bytesOf (allT l))) = allT l := strOfNums_bytes _

set_option maxRecDepth 100000 in
set_option maxHeartbeats 4000000 in
theorem law_LinesOne (W : World) (A0 : Option Addr) (c0 : Nat) (l0 : List ByteArray) (hr0 : Kd.C Kd.string W A0 l0.length l0) (hc0 : l0.length ≤ c0) (g0 : l0.length * 16 ≤ 140737488351232 ∧ ∀ y ∈ l0, y.size ≤ 140737488351232) :
    Calls Try.prog 12 #[.slice A0 l0.length c0] W fun e w' => e = .returned (.bool true) ∧ Below W.heap.size W w' := by
  have HR0 := Aside0.mk hr0
  have HC0 := Aside0.mk hc0
  clear hr0 hc0 g0
  obtain ⟨K0, h0⟩ := few01 l0 30 (by decide)
  have H0 := Aside0.mk (h0 K0 (Nat.le_refl _))
  clear h0
  go_enter Try.func12, Try.ntmps12
  go_wp2_with fail
  refine (awake01_calls _).mono ?_
  rintro e w1 ⟨rfl, hb⟩
  have HB1 := Aside0.mk hb
  clear hb
  go_wp2_with fail
  refine (sennitref01_Few.calls K0 A0 c0 l0 30 (few l0 30) _ (Kd.C_below HR0.out HB1.out) HC0.out H0.out).mono ?_
  rintro e w2 ⟨rfl, ⟨n2, rfl⟩⟩
  by_cases hf : few l0 30 = true
  · obtain ⟨hl, hs⟩ := few_len hf
    rw [hf]
    have HS := Aside0.mk hs
    clear hs hf
    obtain ⟨K1, h1⟩ := maylines l0 (by omega) (fun s hs => by have := HS.out s hs; omega)
    have H1 := Aside0.mk (h1 K1 (Nat.le_refl _))
    clear h1
    have HB2 : Aside0 (Below W.heap.size W (w1.drewN n2)) := ⟨pw_below_drewN HB1.out n2⟩
    go_wp2_with fail
    refine (join_lit A0 c0 l0 _ (Kd.C_below HR0.out HB2.out) HC0.out (by omega) (fun s hs => by have := HS.out s hs; omega) _ (by simp)).mono ?_
    rintro e w3 ⟨v3, rfl, HO3, hB3⟩
    obtain ⟨A3, c3, rfl⟩ := Kd.R_slice HO3.out
    have HB3 : Aside0 (Below W.heap.size W w3) := ⟨far_ HB2.out hB3.out⟩
    clear hB3
    have hsz : (bytesOf (allT l0)).length ≤ 1000000000 := by
      have := flat_len l0 (fun s hs => by have := HS.out s hs; omega)
      rw [show (bytesOf (allT l0)).length = (allT l0).data.toList.length from by simp [bytesOf], allT, toList_txt]; omega
    go_wp2_with fail
    refine (lines_Split.calls A3 c3 _ _ _ (Kd.R_reads' HO3.out).2.2 (Kd.R_reads' HO3.out).2.1 (split_f hsz)).mono ?_
    rintro e w4 ⟨v4, rfl, ho4, hb4⟩
    obtain ⟨A4, c4, rfl⟩ := Kd.R_slice ho4
    have HO4 := Aside0.mk ho4
    have HB4 : Aside0 (Below W.heap.size W w4) := ⟨far_ HB3.out hb4⟩
    clear ho4 hb4 HO3
    obtain ⟨K2, h2⟩ := same01 (linesT (bytesOf (allT l0))) l0 (by have := linesT_len (bytesOf (allT l0)); omega)
    have H2 := Aside0.mk (h2 K2 (Nat.le_refl _))
    clear h2
    have hq : decide (linesT (bytesOf (allT l0)) = l0) = mayT l0 := by
      rw [Bool.eq_iff_iff, decide_eq_true_eq]; exact linesT_all l0
    go_wp2_with fail
    refine (sennitref01_Same.calls K2 A4 c4 _ A0 c0 l0 _ _ (Kd.R_reads' HO4.out).2.2 (Kd.R_reads' HO4.out).2.1 (Kd.C_below HR0.out HB4.out) HC0.out H2.out).mono ?_
    rintro e w5 ⟨rfl, ⟨n5, rfl⟩⟩
    rw [hq]
    clear hq HO4 hsz H2 H0
    obtain ⟨m, hm⟩ : ∃ m, mayT l0 = m := ⟨_, rfl⟩
    rw [hm] at H1 ⊢
    clear hm
    have HB5 : Aside0 (Below W.heap.size W (w4.drewN n5)) := ⟨pw_below_drewN HB4.out n5⟩
    obtain ⟨w6, hw6⟩ : ∃ w6, w4.drewN n5 = w6 := ⟨_, rfl⟩
    rw [hw6] at HB5 ⊢
    clear hw6 HB4
    have hmm : (m == m) = true := by simp
    have hl30 : l0.length ≤ 1000 := by omega
    have HS' : Aside0 (∀ s ∈ l0, s.size ≤ 1000) := ⟨fun s hs => by have := HS.out s hs; omega⟩
    have HJ : Aside0 (sennitref01_Join.f (l0.length + 1) l0 = some (allT l0)) := ⟨joinref l0 hl30 HS'.out _ (Nat.le_refl _)⟩
    have haa : ((allT l0).toList == (allT l0).toList) = true := by simp
    go_wp2
    refine start_ (n := 17) (S := fun w' => True) (ds := []) #[false, false, false, false, false, false, false, false, false, false, false, false, false, false, false, false, false] (by kernel_rfl) rfl rfl trivial (fun hHeld => ?_)
    refine pure_ (i := 0) (N := some 16) (v := ?_) (a' := ?_) #[true, false, false, false, false, false, false, false, false, false, false, false, false, false, false, false, false] rfl rfl (by kernel_rfl) (fun _ _ _ h => h) (Or.inl ⟨by rfl, ?_⟩) ?_ ?_
    rotate_left
    · intro w'
      go_simp
      with_reducible rfl
    rotate_left
    · simp only [Act.put, List.setIfInBounds_toArray, List.set_cons_zero, List.set_cons_succ, i64_w, i32_w]
      rfl
    refine pure_ (i := 1) (N := some 17) (v := ?_) (a' := ?_) #[true, true, false, false, false, false, false, false, false, false, false, false, false, false, false, false, false] rfl rfl (by kernel_rfl) (fun _ _ _ h => h) (Or.inl ⟨by rfl, ?_⟩) ?_ ?_
    rotate_left
    · intro w'
      go_simp
      with_reducible rfl
    rotate_left
    · simp only [Act.put, List.setIfInBounds_toArray, List.set_cons_zero, List.set_cons_succ, i64_w, i32_w]
      rfl
    refine pure_ (i := 2) (N := some 18) (v := ?_) (a' := ?_) #[true, true, true, false, false, false, false, false, false, false, false, false, false, false, false, false, false] rfl rfl (by kernel_rfl) (fun _ _ _ h => h) (Or.inl ⟨by rfl, ?_⟩) ?_ ?_
    rotate_left
    · intro w'
      go_simp
      with_reducible rfl
    rotate_left
    · simp only [Act.put, List.setIfInBounds_toArray, List.set_cons_zero, List.set_cons_succ, i64_w, i32_w]
      rfl
    refine pure_ (i := 3) (N := some 19) (v := ?_) (a' := ?_) #[true, true, true, true, false, false, false, false, false, false, false, false, false, false, false, false, false] rfl rfl (by kernel_rfl) (fun _ _ _ h => h) (Or.inl ⟨by rfl, ?_⟩) ?_ ?_
    rotate_left
    · intro w'
      go_simp
      with_reducible rfl
    rotate_left
    · simp only [Act.put, List.setIfInBounds_toArray, List.set_cons_zero, List.set_cons_succ, i64_w, i32_w]
      rfl
    refine one_ (i := 4) (N := some 20) #[true, true, true, true, true, false, false, false, false, false, false, false, false, false, false, false, false] rfl rfl (by kernel_rfl) (by decide) (fun K hK => ?_)
    refine goes_ Try.func29 (by kernel_rfl) rfl #[.slice A0 l0.length c0] (by rfl) rfl rfl (by simp only [List.map_toArray, List.map_cons, List.map_nil]; rfl) ?_
    with_reducible refine (lines_May.calls K1 A0 c0 l0 m _ (Kd.C_below HR0.out HB5.out.drew) HC0.out H1.out).mono ?_
    rintro e w7 ⟨rfl, ⟨n7, rfl⟩⟩
    refine ⟨_, rfl, ?_⟩
    have HB7 : Aside0 (Below W.heap.size W (w6.drewN (1 + n7))) := ⟨pw_below_drewN HB5.out (1 + n7)⟩
    refine hK.out _ _ trivial (fun hHeld => ?_)
    clear hK K
    refine norm_ (a' := ?_) ?_ ?_
    rotate_left
    · show Act.put _ (some 20) _ = _
      simp only [Act.put, List.setIfInBounds_toArray, List.set_cons_zero, List.set_cons_succ, i64_w, i32_w]
      rfl
    refine pure_ (i := 5) (N := some 21) (v := ?_) (a' := ?_) #[true, true, true, true, true, true, false, false, false, false, false, false, false, false, false, false, false] rfl rfl (by kernel_rfl) (fun _ _ _ h => h) (Or.inl ⟨by rfl, ?_⟩) ?_ ?_
    rotate_left
    · intro w'
      go_simp
      with_reducible rfl
    rotate_left
    · simp only [Act.put, List.setIfInBounds_toArray, List.set_cons_zero, List.set_cons_succ, i64_w, i32_w]
      rfl
    refine pure_ (i := 6) (N := some 22) (v := ?_) (a' := ?_) #[true, true, true, true, true, true, true, false, false, false, false, false, false, false, false, false, false] rfl rfl (by kernel_rfl) (fun _ _ _ h => h) (Or.inl ⟨by rfl, ?_⟩) ?_ ?_
    rotate_left
    · intro w'
      go_simp
      with_reducible rfl
    rotate_left
    · simp only [Act.put, List.setIfInBounds_toArray, List.set_cons_zero, List.set_cons_succ, i64_w, i32_w]
      rfl
    refine pure_ (i := 7) (N := some 23) (v := ?_) (a' := ?_) #[true, true, true, true, true, true, true, true, false, false, false, false, false, false, false, false, false] rfl rfl (by kernel_rfl) (fun _ _ _ h => h) (Or.inl ⟨by rfl, ?_⟩) ?_ ?_
    rotate_left
    · intro w'
      go_simp
      with_reducible rfl
    rotate_left
    · simp only [Act.put, List.setIfInBounds_toArray, List.set_cons_zero, List.set_cons_succ, i64_w, i32_w]
      rfl
    refine pure_ (i := 8) (N := some 24) (v := ?_) (a' := ?_) #[true, true, true, true, true, true, true, true, true, false, false, false, false, false, false, false, false] rfl rfl (by kernel_rfl) (fun _ _ _ h => h) (Or.inl ⟨by rfl, ?_⟩) ?_ ?_
    rotate_left
    · intro w'
      go_simp
      with_reducible rfl
    rotate_left
    · simp only [Act.put, List.setIfInBounds_toArray, List.set_cons_zero, List.set_cons_succ, i64_w, i32_w]
      rfl
    refine pure_ (i := 12) (N := some 28) (v := ?_) (a' := ?_) #[true, true, true, true, true, true, true, true, true, false, false, false, true, false, false, false, false] rfl rfl (by kernel_rfl) (fun _ _ _ h => h) (Or.inl ⟨by rfl, ?_⟩) ?_ ?_
    rotate_left
    · intro w'
      go_simp
      with_reducible rfl
    rotate_left
    · simp only [Act.put, List.setIfInBounds_toArray, List.set_cons_zero, List.set_cons_succ, i64_w, i32_w]
      rfl
    refine one_ (i := 9) (N := some 25) #[true, true, true, true, true, true, true, true, true, true, false, false, true, false, false, false, false] rfl rfl (by kernel_rfl) (by decide) (fun K hK => ?_)
    refine value_ (w1 := ?_) (v := ?_) (by rfl) rfl ?_ ?_
    rotate_left 2
    · go_simp
      constructor
      · rfl
      · rfl
    refine hK.out _ _ trivial (fun hHeld => ?_)
    clear hK K
    refine norm_ (a' := ?_) ?_ ?_
    rotate_left
    · show Act.put _ (some 25) _ = _
      simp only [Act.put, List.setIfInBounds_toArray, List.set_cons_zero, List.set_cons_succ, i64_w, i32_w]
      rfl
    refine one_ (i := 10) (N := some 26) #[true, true, true, true, true, true, true, true, true, true, true, false, true, false, false, false, false] rfl rfl (by kernel_rfl) (by decide) (fun K hK => ?_)
    refine goes_ Try.func32 (by kernel_rfl) rfl #[.slice (some ⟨w6.heap.size, 0, none⟩) 1 1] (by rfl) rfl rfl (by simp only [List.map_toArray, List.map_cons, List.map_nil]; rfl) ?_
    with_reducible refine (join_lit A0 c0 l0 (w6.drewN (1 + n7)) (Kd.C_below HR0.out HB7.out) HC0.out hl30 HS'.out _ (by simp)).mono ?_
    rintro e w8 ⟨v8, rfl, HO8, hB8⟩
    obtain ⟨A8, c8, rfl⟩ := Kd.R_slice HO8.out
    refine ⟨_, rfl, ?_⟩
    have HB8 : Aside0 (Below W.heap.size W w8) := ⟨far_ HB7.out hB8.out⟩
    have hcv8 := own_string (P := Try.prog) Try.underlying41 Try.underlying5 Try.underlying9 (Kd.own_of_R HO8.out)
    rw [one_str] at hcv8
    refine hK.out _ _ trivial (fun hHeld => ?_)
    clear hK K
    refine norm_ (a' := ?_) ?_ ?_
    rotate_left
    · show Act.put _ (some 26) _ = _
      simp only [Act.put, List.setIfInBounds_toArray, List.set_cons_zero, List.set_cons_succ, i64_w, i32_w]
      rfl
    refine join_ (σ := Unit) 3 #[true, true, true, true, true, true, true, true, true, true, true, true, true, true, false, false, false] (fun _ => [(27, .string (allT l0)), (29, .string (allT l0))]) (fun _ w' => Aside0 (Below W.heap.size W w')) ?_ ?_
    rotate_left
    · intro hCont
      refine two_ (i := 11) (j := 13) (Ni := some 27) (Nj := some 29) #[true, true, true, true, true, true, true, true, true, true, true, true, true, false, false, false, false] #[true, true, true, true, true, true, true, true, true, true, true, false, true, true, false, false, false] rfl rfl rfl rfl (by kernel_rfl) (by decide) (by decide) (fun K hK => ?_) (fun K hK => ?_)
      · skip
        refine value_ (w1 := ?_) (v := ?_) (by rfl) rfl ?_ ?_
        rotate_left 2
        · go_simp
          constructor
          · rfl
          · rfl
        refine hK.out _ _ trivial (fun hHeld => ?_)
        clear hK K
        refine norm_ (a' := ?_) ?_ ?_
        rotate_left
        · show Act.put _ (some 27) _ = _
          simp only [Act.put, List.setIfInBounds_toArray, List.set_cons_zero, List.set_cons_succ, i64_w, i32_w]
          rfl
        refine one_ (i := 13) (N := some 29) #[true, true, true, true, true, true, true, true, true, true, true, true, true, true, false, false, false] rfl rfl (by kernel_rfl) (by decide) (fun K hK => ?_)
        refine goes_ Try.func34 (by kernel_rfl) rfl #[.slice A0 l0.length c0] (by rfl) rfl rfl (by simp only [List.map_toArray, List.map_cons, List.map_nil]; rfl) ?_
        with_reducible refine (sennitref01_Join.calls (l0.length + 1) A0 c0 l0 _ _ (Kd.C_below HR0.out HB8.out) HC0.out HJ.out).mono ?_
        rintro e w9 ⟨rfl, ⟨n9, rfl⟩⟩
        refine ⟨_, rfl, ?_⟩
        refine hK.out _ _ trivial (fun hHeld => ?_)
        clear hK K
        refine norm_ (a' := ?_) ?_ ?_
        rotate_left
        · show Act.put _ (some 29) _ = _
          simp only [Act.put, List.setIfInBounds_toArray, List.set_cons_zero, List.set_cons_succ, i64_w, i32_w]
          rfl
        exact norm_ (by simp only [putAll, Act.put, List.setIfInBounds_toArray, List.set_cons_zero, List.set_cons_succ]) (hCont () _ ⟨pw_below_drewN HB8.out n9⟩)
      · skip
        refine goes_ Try.func34 (by kernel_rfl) rfl #[.slice A0 l0.length c0] (by rfl) rfl rfl (by simp only [List.map_toArray, List.map_cons, List.map_nil]; rfl) ?_
        with_reducible refine (sennitref01_Join.calls (l0.length + 1) A0 c0 l0 _ _ (Kd.C_below HR0.out HB8.out) HC0.out HJ.out).mono ?_
        rintro e w9 ⟨rfl, ⟨n9, rfl⟩⟩
        refine ⟨_, rfl, ?_⟩
        refine hK.out _ _ trivial (fun hHeld => ?_)
        clear hK K
        refine norm_ (a' := ?_) ?_ ?_
        rotate_left
        · show Act.put _ (some 29) _ = _
          simp only [Act.put, List.setIfInBounds_toArray, List.set_cons_zero, List.set_cons_succ, i64_w, i32_w]
          rfl
        refine one_ (i := 11) (N := some 27) #[true, true, true, true, true, true, true, true, true, true, true, true, true, true, false, false, false] rfl rfl (by kernel_rfl) (by decide) (fun K hK => ?_)
        have hcv9 := own_string (P := Try.prog) Try.underlying41 Try.underlying5 Try.underlying9 (Kd.own_of_R (Kd.R_below HO8.out (pw_below_drewN (Below.refl _ _) n9)))
        rw [one_str] at hcv9
        refine value_ (w1 := ?_) (v := ?_) (by rfl) rfl ?_ ?_
        rotate_left 2
        · go_simp
          constructor
          · rfl
          · rfl
        refine hK.out _ _ trivial (fun hHeld => ?_)
        clear hK K
        refine norm_ (a' := ?_) ?_ ?_
        rotate_left
        · show Act.put _ (some 27) _ = _
          simp only [Act.put, List.setIfInBounds_toArray, List.set_cons_zero, List.set_cons_succ, i64_w, i32_w]
          rfl
        exact norm_ (by simp only [putAll, Act.put, List.setIfInBounds_toArray, List.set_cons_zero, List.set_cons_succ]) (hCont () _ ⟨pw_below_drewN HB8.out n9⟩)
    rintro s w9 HB9
    have hHeld : True := trivial
    refine norm_ (a' := ?_) ?_ ?_
    rotate_left
    · simp only [putAll, Act.put, List.setIfInBounds_toArray, List.set_cons_zero, List.set_cons_succ]
      rfl
    refine pure_ (i := 14) (N := some 30) (v := ?_) (a' := ?_) #[true, true, true, true, true, true, true, true, true, true, true, true, true, true, true, false, false] rfl rfl (by kernel_rfl) (fun _ _ _ h => h) (Or.inl ⟨by rfl, ?_⟩) ?_ ?_
    rotate_left
    · intro w'
      go_simp
      with_reducible rfl
    rotate_left
    · simp only [Act.put, List.setIfInBounds_toArray, List.set_cons_zero, List.set_cons_succ, i64_w, i32_w]
      rfl
    refine pure_ (i := 15) (N := some 31) (v := ?_) (a' := ?_) #[true, true, true, true, true, true, true, true, true, true, true, true, true, true, true, true, false] rfl rfl (by kernel_rfl) (fun _ _ _ h => h) (Or.inl ⟨by rfl, ?_⟩) ?_ ?_
    rotate_left
    · intro w'
      go_simp
      with_reducible rfl
    rotate_left
    · simp only [Act.put, List.setIfInBounds_toArray, List.set_cons_zero, List.set_cons_succ, i64_w, i32_w]
      rfl
    refine pure_ (i := 16) (N := some 2) (v := ?_) (a' := ?_) #[true, true, true, true, true, true, true, true, true, true, true, true, true, true, true, true, true] rfl rfl (by kernel_rfl) (fun _ _ _ h => h) (Or.inl ⟨by rfl, ?_⟩) ?_ ?_
    rotate_left
    · intro w'
      go_simp
      with_reducible rfl
    rotate_left
    · simp only [Act.put, List.setIfInBounds_toArray, List.set_cons_zero, List.set_cons_succ, i64_w, i32_w]
      rfl
    refine done_ (by kernel_rfl) ?_

    clear hcv8
    go_wp2
    go_ret
    exact ⟨rfl, HB9.out⟩
  · have hf' : few l0 30 = false := Bool.eq_false_iff.2 hf
    rw [hf']
    go_wp2
    go_ret
    exact ⟨rfl, pw_below_drewN HB1.out n2⟩
end Go.Proofs.Ytkakcefekabmhaa.X
