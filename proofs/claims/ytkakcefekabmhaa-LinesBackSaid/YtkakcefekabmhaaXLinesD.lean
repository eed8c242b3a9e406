/-
  sennitlaw01.LinesBack: by hand.
-/
import Derived.Test.YtkakcefekabmhaaXLinesC
namespace Go.Proofs.Ytkakcefekabmhaa.X
open Go.RowKit Go.Proofs.YtkakcefekabmhaaW.PrintWords Go.Proofs.YtkakcefekabmhaaW.PrintLast Go.Proofs.YtkakcefekabmhaaW.PrintMore
set_option linter.unusedVariables false
set_option linter.unusedSimpArgs false

/-- Line feeds among numbers. -/
def feedsN (b : List Int) : Nat := b.count 10
theorem feedsN_bytes (b : List Int) (h8 : ∀ y ∈ b, 0 ≤ y ∧ y < 256) : feedsN b = (Lib.bytesOf b).count 10 := by
  induction b with
  | nil => rfl
  | cons x xs ih =>
    have hx := h8 x List.mem_cons_self
    have := ih (fun y hy => h8 y (List.mem_cons_of_mem _ hy))
    simp only [feedsN, Lib.bytesOf, List.map_cons] at this ⊢
    have e10 : (UInt8.ofNat x.toNat = 10) ↔ x = 10 := by
      rw [← UInt8.toNat_inj, UInt8.toNat_ofNat']
      simp
      omega
    by_cases e : x = 10
    · rw [e10.2 e, e, List.count_cons_self, List.count_cons_self, this]
    · rw [List.count_cons_of_ne e, List.count_cons_of_ne (fun h => e (e10.1 h)), this]
theorem feedsN_snoc (b : List Int) {i : Nat} (h : i < b.length) : feedsN (b.take (i + 1)) = feedsN (b.take i) + if b[i] = 10 then 1 else 0 := by
  rw [← List.take_append_getElem h, feedsN, feedsN, List.count_append]
  by_cases e : b[i] = 10 <;> simp [e]
theorem feedsN_le (b : List Int) : feedsN b ≤ b.length := List.count_le_length
theorem lines_feeds (b : List Int) (h8 : ∀ y ∈ b, 0 ≤ y ∧ y < 256) : (linesT b).length = feedsN b + if openT (linesT b) = true then 1 else 0 := by
  rw [openT_lines, feedsN_bytes b h8, ← lines_length]
  simp [linesT]

set_option maxRecDepth 100000 in
set_option maxHeartbeats 4000000 in
theorem law_LinesBack (W : World) (A0 : Option Addr) (c0 : Nat) (l0 : List Int) (hr0 : Kd.C (Kd.int .u8) W A0 l0.length l0) (hc0 : l0.length ≤ c0) (g0 : l0.length * 1 ≤ 140737488351232 ∧ ∀ y ∈ l0, (Lit.int .u8 y).wf = true) :
    Calls Try.prog 11 #[.slice A0 l0.length c0] W fun e w' => e = .returned (.bool true) ∧ Below W.heap.size W w' := by
  have HR0 := Aside0.mk hr0
  have HC0 := Aside0.mk hc0
  have H8 : Aside0 (∀ y ∈ l0, 0 ≤ y ∧ y < 256) := ⟨fun y hy => wf_u8' (g0.2 y hy)⟩
  clear hr0 hc0 g0
  go_enter Try.func11, Try.ntmps11
  go_wp2_with fail
  refine (awake01_calls _).mono ?_
  rintro e w1 ⟨rfl, hb⟩
  have HB1 := Aside0.mk hb
  clear hb
  by_cases hl : l0.length ≤ 300
  · have b1 : decide ((300 : Int) < (l0.length : Int)) = false := decide_eq_false (by omega)
    have b2 : decide (300 < l0.length) = false := decide_eq_false (by omega)
    go_wp2_with fail
    refine (lines_Split.calls A0 c0 l0 _ _ (Kd.C_below HR0.out HB1.out) HC0.out (split_f (by omega))).mono ?_
    rintro e w2 ⟨v2, rfl, ho2, hb2⟩
    obtain ⟨A2, c2, rfl⟩ := Kd.R_slice ho2
    have HC2 : Aside0 (Kd.C Kd.string w2 A2 (linesT l0).length (linesT l0)) := ⟨(Kd.R_reads' ho2).2.2⟩
    have HL2 : Aside0 ((linesT l0).length ≤ c2) := ⟨(Kd.R_reads' ho2).2.1⟩
    have HB2 : Aside0 (Below W.heap.size W w2) := ⟨far_ HB1.out hb2⟩
    clear ho2 hb2
    go_wp2_with fail
    go_loop [5, 6] (fun n i => ∃ k : Nat, k ≤ l0.length ∧ i = .int .i64 k ∧ n = .int .i64 ((feedsN (l0.take k) : Nat) : Int)) (fun _ i => l0.length - (intOf i).toNat)
    case atStart => exact ⟨0, Nat.zero_le _, rfl, rfl⟩
    case round =>
      obtain ⟨k, hk, rfl, rfl⟩ := hrel
      have hf := feedsN_le (l0.take k)
      rw [List.length_take] at hf
      by_cases hlt : k < l0.length
      · have HSN := Aside0.mk (feedsN_snoc l0 hlt)
        obtain ⟨ad, rfl, hcell⟩ := Kd.at_int (Kd.C_below HR0.out HB2.out) (k : Int) (by omega) (by omega)
        rw [Int.toNat_natCast, rd_get' hlt] at hcell
        obtain ⟨y, hy⟩ : ∃ y, l0[k] = y := ⟨_, rfl⟩
        rw [hy] at hcell HSN
        clear hy
        by_cases e : y = 10
        · subst e
          have q1 : ((10 : Int) == 10) = true := rfl
          go_wp2
          go_round
          case rel => exact ⟨k + 1, by omega, by go_num, by rw [HSN.out, if_pos rfl]; go_num⟩
          case measure => simp [intOf]; omega
        · have q1 : (y == 10) = false := by simp [e]
          go_wp2
          go_round
          case rel => exact ⟨k + 1, by omega, by go_num, by rw [HSN.out, if_neg e]; go_num⟩
          case measure => simp [intOf]; omega
      · have hk' : k = l0.length := by omega
        subst hk'
        rw [List.take_length] at hf ⊢
        have hn := linesT_len l0
        have hopen := openlines (linesT l0) (by omega) (fun s hs => by have := linesT_mem hs; omega)
        have HLF := Aside0.mk (lines_feeds l0 H8.out)
        have hl300 : (linesT l0).length ≤ 1000 := by omega
        have HS' : Aside0 (∀ s ∈ linesT l0, s.size ≤ 1000) := ⟨fun s hs => by have := linesT_mem hs; omega⟩
        clear hn hlt hk
        go_wp2_with fail
        refine (lines_Open.calls A2 c2 (linesT l0) _ _ HC2.out HL2.out hopen).mono ?_
        rintro e w3 ⟨rfl, ⟨n3, rfl⟩⟩
        clear hopen
        have HC3 : Aside0 (Kd.C Kd.string (w2.drewN n3) A2 (linesT l0).length (linesT l0)) := ⟨Kd.C_drewN HC2.out _⟩
        have HB3 : Aside0 (Below W.heap.size W (w2.drewN n3)) := ⟨pw_below_drewN HB2.out n3⟩
        obtain ⟨w4, hw4⟩ : ∃ w4, w2.drewN n3 = w4 := ⟨_, rfl⟩
        rw [hw4] at HC3 HB3 ⊢
        clear hw4 HC2 HB2
        have hss : ((strOfNums l0).toList == (strOfNums l0).toList) = true := by simp
        have HCW : Aside0 (∀ w', Below W.heap.size W w' → (convert 41 9 (.slice A0 l0.length c0)).run Try.prog w' = .ok (.string (strOfNums l0)) w') := ⟨fun w' h => Kd.C_string Try.underlying41 Try.underlying5 Try.underlying9 (Kd.C_below HR0.out h)⟩
        obtain ⟨o, ho⟩ : ∃ o, openT (linesT l0) = o := ⟨_, rfl⟩
        rw [ho] at HLF ⊢
        clear ho
        obtain ⟨n, hn⟩ : ∃ n, feedsN l0 = n := ⟨_, rfl⟩
        rw [hn] at HLF hf ⊢
        clear hn
        have s1 : wrap64 ((n : Int) + 1) = (n : Int) + 1 ∧ IntKind.i64.wrap ((n : Int) + 1) = (n : Int) + 1 := ⟨w64' (by omega) (by omega), IntWalk.i64_in _ ⟨by omega, by omega⟩⟩
        obtain ⟨s2, s3⟩ := s1
        have cv := HCW.out w4 HB3.out
        have cvd := HCW.out w4.drew HB3.out.drew
        have alit : allT (linesT l0) = strOfNums l0 := allT_lines l0
        have AL := Aside0.mk alit
        clear alit
        cases o
        · have hlen : (linesT l0).length = n := by have := HLF.out; simpa using this
          have q5 : (((linesT l0).length : Int) == (n : Int)) = true := by rw [hlen]; simp
          clear hlen
          go_wp2
          refine start_ (n := 17) (S := fun w' => (convert 41 9 (.slice A0 l0.length c0)).run Try.prog w' = .ok (.string (strOfNums l0)) w') (ds := []) #[false, false, false, false, false, false, false, false, false, false, false, false, false, false, false, false, false] (by kernel_rfl) rfl rfl (cvd) (fun hHeld => ?_)
          refine pure_ (i := 0) (N := some 31) (v := ?_) (a' := ?_) #[true, false, false, false, false, false, false, false, false, false, false, false, false, false, false, false, false] rfl rfl (by kernel_rfl) (fun _ _ _ h => h) (Or.inl ⟨by rfl, ?_⟩) ?_ ?_
          rotate_left
          · intro w'
            go_simp
            with_reducible rfl
          rotate_left
          · simp only [Act.put, List.setIfInBounds_toArray, List.set_cons_zero, List.set_cons_succ, i64_w, i32_w]
            rfl
          refine pure_ (i := 1) (N := some 32) (v := ?_) (a' := ?_) #[true, true, false, false, false, false, false, false, false, false, false, false, false, false, false, false, false] rfl rfl (by kernel_rfl) (fun _ _ _ h => h) (Or.inl ⟨by rfl, ?_⟩) ?_ ?_
          rotate_left
          · intro w'
            go_simp
            with_reducible rfl
          rotate_left
          · simp only [Act.put, List.setIfInBounds_toArray, List.set_cons_zero, List.set_cons_succ, i64_w, i32_w]
            rfl
          refine pure_ (i := 2) (N := some 33) (v := ?_) (a' := ?_) #[true, true, true, false, false, false, false, false, false, false, false, false, false, false, false, false, false] rfl rfl (by kernel_rfl) (fun _ _ _ h => h) (Or.inl ⟨by rfl, ?_⟩) ?_ ?_
          rotate_left
          · intro w'
            go_simp
            with_reducible rfl
          rotate_left
          · simp only [Act.put, List.setIfInBounds_toArray, List.set_cons_zero, List.set_cons_succ, i64_w, i32_w]
            rfl
          refine pure_ (i := 6) (N := some 37) (v := ?_) (a' := ?_) #[true, true, true, false, false, false, true, false, false, false, false, false, false, false, false, false, false] rfl rfl (by kernel_rfl) (fun _ _ _ h => h) (Or.inl ⟨by rfl, ?_⟩) ?_ ?_
          rotate_left
          · intro w'
            go_simp
            with_reducible rfl
          rotate_left
          · simp only [Act.put, List.setIfInBounds_toArray, List.set_cons_zero, List.set_cons_succ, i64_w, i32_w]
            rfl
          refine take_ (i := 7) (N := some 38) (v := ?_) (a' := ?_) #[true, true, true, false, false, false, true, true, false, false, false, false, false, false, false, false, false] rfl rfl (by kernel_rfl) (fun _ _ _ h => h) (Or.inl ⟨by rfl, ?_⟩) hHeld ?_ ?_
          rotate_left
          · intro w' s0
            go_simp
            with_reducible rfl
          rotate_left
          · simp only [Act.put, List.setIfInBounds_toArray, List.set_cons_zero, List.set_cons_succ, i64_w, i32_w]
            rfl
          refine one_ (i := 3) (N := some 34) #[true, true, true, true, false, false, true, true, false, false, false, false, false, false, false, false, false] rfl rfl (by kernel_rfl) (by decide) (fun K hK => ?_)
          refine value_ (w1 := ?_) (v := ?_) (by rfl) rfl ?_ ?_
          rotate_left 2
          · go_simp
            constructor
            · rfl
            · rfl
          refine hK.out _ _ (HCW.out _ ((HB3.out.drew).alloc HB3.out.drew.size _)) (fun hHeld => ?_)
          clear hK K
          refine norm_ (a' := ?_) ?_ ?_
          rotate_left
          · show Act.put _ (some 34) _ = _
            simp only [Act.put, List.setIfInBounds_toArray, List.set_cons_zero, List.set_cons_succ, i64_w, i32_w]
            rfl
          refine one_ (i := 4) (N := some 35) #[true, true, true, true, true, false, true, true, false, false, false, false, false, false, false, false, false] rfl rfl (by kernel_rfl) (by decide) (fun K hK => ?_)
          refine goes_ Try.func32 (by kernel_rfl) rfl #[.slice (some ⟨w4.heap.size, 0, none⟩) 1 1] (by rfl) rfl rfl (by simp only [List.map_toArray, List.map_cons, List.map_nil]; rfl) ?_
          show Calls Try.prog 32 _ (w4.drew.alloc (.cells #[.slice A2 (linesT l0).length c2] 42)) _
          with_reducible refine (join_lit A2 c2 (linesT l0) w4.drew (Kd.C_drew HC3.out) HL2.out hl300 HS'.out w4.heap.size (by simp)).mono ?_
          rintro e w8 ⟨v8, rfl, HO8, hB8⟩
          obtain ⟨A8, c8, rfl⟩ := Kd.R_slice HO8.out
          refine ⟨_, rfl, ?_⟩
          have HB8 : Aside0 (Below W.heap.size W w8) := ⟨far_ HB3.out.drew hB8.out⟩
          have hcv8 := own_string (P := Try.prog) Try.underlying41 Try.underlying5 Try.underlying9 (Kd.own_of_R HO8.out)
          rw [one_str] at hcv8
          replace hcv8 : Sem.run Try.prog (convert 41 9 (.slice A8 (bytesOf (allT (linesT l0))).length c8)) w8 = .ok (.string (strOfNums l0)) w8 := hcv8.trans (by rw [AL.out])
          refine hK.out _ _ (HCW.out _ HB8.out) (fun hHeld => ?_)
          clear hK K
          refine norm_ (a' := ?_) ?_ ?_
          rotate_left
          · show Act.put _ (some 35) _ = _
            simp only [Act.put, List.setIfInBounds_toArray, List.set_cons_zero, List.set_cons_succ, i64_w, i32_w]
            rfl
          refine one_ (i := 5) (N := some 36) #[true, true, true, true, true, true, true, true, false, false, false, false, false, false, false, false, false] rfl rfl (by kernel_rfl) (by decide) (fun K hK => ?_)
          refine value_ (w1 := ?_) (v := ?_) (by rfl) rfl ?_ ?_
          rotate_left 2
          · go_simp
            constructor
            · rfl
            · rfl
          refine hK.out _ _ (HCW.out _ HB8.out) (fun hHeld => ?_)
          clear hK K
          refine norm_ (a' := ?_) ?_ ?_
          rotate_left
          · show Act.put _ (some 36) _ = _
            simp only [Act.put, List.setIfInBounds_toArray, List.set_cons_zero, List.set_cons_succ, i64_w, i32_w]
            rfl
          refine pure_ (i := 8) (N := some 39) (v := ?_) (a' := ?_) #[true, true, true, true, true, true, true, true, true, false, false, false, false, false, false, false, false] rfl rfl (by kernel_rfl) (fun _ _ _ h => h) (Or.inl ⟨by rfl, ?_⟩) ?_ ?_
          rotate_left
          · intro w'
            go_simp
            with_reducible rfl
          rotate_left
          · simp only [Act.put, List.setIfInBounds_toArray, List.set_cons_zero, List.set_cons_succ, i64_w, i32_w]
            rfl
          refine pure_ (i := 9) (N := some 40) (v := ?_) (a' := ?_) #[true, true, true, true, true, true, true, true, true, true, false, false, false, false, false, false, false] rfl rfl (by kernel_rfl) (fun _ _ _ h => h) (Or.inl ⟨by rfl, ?_⟩) ?_ ?_
          rotate_left
          · intro w'
            go_simp
            with_reducible rfl
          rotate_left
          · simp only [Act.put, List.setIfInBounds_toArray, List.set_cons_zero, List.set_cons_succ, i64_w, i32_w]
            rfl
          refine pure_ (i := 10) (N := some 41) (v := ?_) (a' := ?_) #[true, true, true, true, true, true, true, true, true, true, true, false, false, false, false, false, false] rfl rfl (by kernel_rfl) (fun _ _ _ h => h) (Or.inl ⟨by rfl, ?_⟩) ?_ ?_
          rotate_left
          · intro w'
            go_simp
            with_reducible rfl
          rotate_left
          · simp only [Act.put, List.setIfInBounds_toArray, List.set_cons_zero, List.set_cons_succ, i64_w, i32_w]
            rfl
          refine pure_ (i := 11) (N := some 42) (v := ?_) (a' := ?_) #[true, true, true, true, true, true, true, true, true, true, true, true, false, false, false, false, false] rfl rfl (by kernel_rfl) (fun _ _ _ h => h) (Or.inl ⟨by rfl, ?_⟩) ?_ ?_
          rotate_left
          · intro w'
            go_simp
            with_reducible rfl
          rotate_left
          · simp only [Act.put, List.setIfInBounds_toArray, List.set_cons_zero, List.set_cons_succ, i64_w, i32_w]
            rfl
          refine pure_ (i := 12) (N := some 43) (v := ?_) (a' := ?_) #[true, true, true, true, true, true, true, true, true, true, true, true, true, false, false, false, false] rfl rfl (by kernel_rfl) (fun _ _ _ h => h) (Or.inl ⟨by rfl, ?_⟩) ?_ ?_
          rotate_left
          · intro w'
            go_simp
            with_reducible rfl
          rotate_left
          · simp only [Act.put, List.setIfInBounds_toArray, List.set_cons_zero, List.set_cons_succ, i64_w, i32_w]
            rfl
          refine pure_ (i := 13) (N := some 44) (v := ?_) (a' := ?_) #[true, true, true, true, true, true, true, true, true, true, true, true, true, true, false, false, false] rfl rfl (by kernel_rfl) (fun _ _ _ h => h) (Or.inl ⟨by rfl, ?_⟩) ?_ ?_
          rotate_left
          · intro w'
            go_simp
            with_reducible rfl
          rotate_left
          · simp only [Act.put, List.setIfInBounds_toArray, List.set_cons_zero, List.set_cons_succ, i64_w, i32_w]
            rfl
          refine pure_ (i := 14) (N := some 45) (v := ?_) (a' := ?_) #[true, true, true, true, true, true, true, true, true, true, true, true, true, true, true, false, false] rfl rfl (by kernel_rfl) (fun _ _ _ h => h) (Or.inl ⟨by rfl, ?_⟩) ?_ ?_
          rotate_left
          · intro w'
            go_simp
            with_reducible rfl
          rotate_left
          · simp only [Act.put, List.setIfInBounds_toArray, List.set_cons_zero, List.set_cons_succ, i64_w, i32_w]
            rfl
          refine pure_ (i := 15) (N := some 46) (v := ?_) (a' := ?_) #[true, true, true, true, true, true, true, true, true, true, true, true, true, true, true, true, false] rfl rfl (by kernel_rfl) (fun _ _ _ h => h) (Or.inl ⟨by rfl, ?_⟩) ?_ ?_
          rotate_left
          · intro w'
            go_simp
            with_reducible rfl
          rotate_left
          · simp only [Act.put, List.setIfInBounds_toArray, List.set_cons_zero, List.set_cons_succ, i64_w, i32_w]
            rfl
          refine pure_ (i := 16) (N := some 2) (v := ?_) (a' := ?_) #[true, true, true, true, true, true, true, true, true, true, true, true, true, true, true, true, true] rfl rfl (by kernel_rfl) (fun _ _ _ h => h) (Or.inl ⟨by rfl, ?_⟩) ?_ ?_
          rotate_left
          · intro w'
            go_simp
            with_reducible rfl
          rotate_left
          · simp only [Act.put, List.setIfInBounds_toArray, List.set_cons_zero, List.set_cons_succ, i64_w, i32_w]
            rfl
          refine done_ (by kernel_rfl) ?_

          go_wp2
          go_ret
          exact ⟨rfl, HB8.out⟩
        · have hlen : (linesT l0).length = n + 1 := by have := HLF.out; simpa using this
          have q5 : (((linesT l0).length : Int) == (n : Int) + 1) = true := by rw [hlen]; simp
          clear hlen
          go_wp2
          refine start_ (n := 17) (S := fun w' => (convert 41 9 (.slice A0 l0.length c0)).run Try.prog w' = .ok (.string (strOfNums l0)) w') (ds := []) #[false, false, false, false, false, false, false, false, false, false, false, false, false, false, false, false, false] (by kernel_rfl) rfl rfl (cvd) (fun hHeld => ?_)
          refine pure_ (i := 0) (N := some 31) (v := ?_) (a' := ?_) #[true, false, false, false, false, false, false, false, false, false, false, false, false, false, false, false, false] rfl rfl (by kernel_rfl) (fun _ _ _ h => h) (Or.inl ⟨by rfl, ?_⟩) ?_ ?_
          rotate_left
          · intro w'
            go_simp
            with_reducible rfl
          rotate_left
          · simp only [Act.put, List.setIfInBounds_toArray, List.set_cons_zero, List.set_cons_succ, i64_w, i32_w]
            rfl
          refine pure_ (i := 1) (N := some 32) (v := ?_) (a' := ?_) #[true, true, false, false, false, false, false, false, false, false, false, false, false, false, false, false, false] rfl rfl (by kernel_rfl) (fun _ _ _ h => h) (Or.inl ⟨by rfl, ?_⟩) ?_ ?_
          rotate_left
          · intro w'
            go_simp
            with_reducible rfl
          rotate_left
          · simp only [Act.put, List.setIfInBounds_toArray, List.set_cons_zero, List.set_cons_succ, i64_w, i32_w]
            rfl
          refine pure_ (i := 2) (N := some 33) (v := ?_) (a' := ?_) #[true, true, true, false, false, false, false, false, false, false, false, false, false, false, false, false, false] rfl rfl (by kernel_rfl) (fun _ _ _ h => h) (Or.inl ⟨by rfl, ?_⟩) ?_ ?_
          rotate_left
          · intro w'
            go_simp
            with_reducible rfl
          rotate_left
          · simp only [Act.put, List.setIfInBounds_toArray, List.set_cons_zero, List.set_cons_succ, i64_w, i32_w]
            rfl
          refine pure_ (i := 6) (N := some 37) (v := ?_) (a' := ?_) #[true, true, true, false, false, false, true, false, false, false, false, false, false, false, false, false, false] rfl rfl (by kernel_rfl) (fun _ _ _ h => h) (Or.inl ⟨by rfl, ?_⟩) ?_ ?_
          rotate_left
          · intro w'
            go_simp
            with_reducible rfl
          rotate_left
          · simp only [Act.put, List.setIfInBounds_toArray, List.set_cons_zero, List.set_cons_succ, i64_w, i32_w]
            rfl
          refine take_ (i := 7) (N := some 38) (v := ?_) (a' := ?_) #[true, true, true, false, false, false, true, true, false, false, false, false, false, false, false, false, false] rfl rfl (by kernel_rfl) (fun _ _ _ h => h) (Or.inl ⟨by rfl, ?_⟩) hHeld ?_ ?_
          rotate_left
          · intro w' s0
            go_simp
            with_reducible rfl
          rotate_left
          · simp only [Act.put, List.setIfInBounds_toArray, List.set_cons_zero, List.set_cons_succ, i64_w, i32_w]
            rfl
          refine one_ (i := 3) (N := some 34) #[true, true, true, true, false, false, true, true, false, false, false, false, false, false, false, false, false] rfl rfl (by kernel_rfl) (by decide) (fun K hK => ?_)
          refine value_ (w1 := ?_) (v := ?_) (by rfl) rfl ?_ ?_
          rotate_left 2
          · go_simp
            constructor
            · rfl
            · rfl
          refine hK.out _ _ (HCW.out _ ((HB3.out.drew).alloc HB3.out.drew.size _)) (fun hHeld => ?_)
          clear hK K
          refine norm_ (a' := ?_) ?_ ?_
          rotate_left
          · show Act.put _ (some 34) _ = _
            simp only [Act.put, List.setIfInBounds_toArray, List.set_cons_zero, List.set_cons_succ, i64_w, i32_w]
            rfl
          refine one_ (i := 4) (N := some 35) #[true, true, true, true, true, false, true, true, false, false, false, false, false, false, false, false, false] rfl rfl (by kernel_rfl) (by decide) (fun K hK => ?_)
          refine goes_ Try.func32 (by kernel_rfl) rfl #[.slice (some ⟨w4.heap.size, 0, none⟩) 1 1] (by rfl) rfl rfl (by simp only [List.map_toArray, List.map_cons, List.map_nil]; rfl) ?_
          show Calls Try.prog 32 _ (w4.drew.alloc (.cells #[.slice A2 (linesT l0).length c2] 42)) _
          with_reducible refine (join_lit A2 c2 (linesT l0) w4.drew (Kd.C_drew HC3.out) HL2.out hl300 HS'.out w4.heap.size (by simp)).mono ?_
          rintro e w8 ⟨v8, rfl, HO8, hB8⟩
          obtain ⟨A8, c8, rfl⟩ := Kd.R_slice HO8.out
          refine ⟨_, rfl, ?_⟩
          have HB8 : Aside0 (Below W.heap.size W w8) := ⟨far_ HB3.out.drew hB8.out⟩
          have hcv8 := own_string (P := Try.prog) Try.underlying41 Try.underlying5 Try.underlying9 (Kd.own_of_R HO8.out)
          rw [one_str] at hcv8
          replace hcv8 : Sem.run Try.prog (convert 41 9 (.slice A8 (bytesOf (allT (linesT l0))).length c8)) w8 = .ok (.string (strOfNums l0)) w8 := hcv8.trans (by rw [AL.out])
          refine hK.out _ _ (HCW.out _ HB8.out) (fun hHeld => ?_)
          clear hK K
          refine norm_ (a' := ?_) ?_ ?_
          rotate_left
          · show Act.put _ (some 35) _ = _
            simp only [Act.put, List.setIfInBounds_toArray, List.set_cons_zero, List.set_cons_succ, i64_w, i32_w]
            rfl
          refine one_ (i := 5) (N := some 36) #[true, true, true, true, true, true, true, true, false, false, false, false, false, false, false, false, false] rfl rfl (by kernel_rfl) (by decide) (fun K hK => ?_)
          refine value_ (w1 := ?_) (v := ?_) (by rfl) rfl ?_ ?_
          rotate_left 2
          · go_simp
            constructor
            · rfl
            · rfl
          refine hK.out _ _ (HCW.out _ HB8.out) (fun hHeld => ?_)
          clear hK K
          refine norm_ (a' := ?_) ?_ ?_
          rotate_left
          · show Act.put _ (some 36) _ = _
            simp only [Act.put, List.setIfInBounds_toArray, List.set_cons_zero, List.set_cons_succ, i64_w, i32_w]
            rfl
          refine pure_ (i := 8) (N := some 39) (v := ?_) (a' := ?_) #[true, true, true, true, true, true, true, true, true, false, false, false, false, false, false, false, false] rfl rfl (by kernel_rfl) (fun _ _ _ h => h) (Or.inl ⟨by rfl, ?_⟩) ?_ ?_
          rotate_left
          · intro w'
            go_simp
            with_reducible rfl
          rotate_left
          · simp only [Act.put, List.setIfInBounds_toArray, List.set_cons_zero, List.set_cons_succ, i64_w, i32_w]
            rfl
          refine pure_ (i := 9) (N := some 40) (v := ?_) (a' := ?_) #[true, true, true, true, true, true, true, true, true, true, false, false, false, false, false, false, false] rfl rfl (by kernel_rfl) (fun _ _ _ h => h) (Or.inl ⟨by rfl, ?_⟩) ?_ ?_
          rotate_left
          · intro w'
            go_simp
            with_reducible rfl
          rotate_left
          · simp only [Act.put, List.setIfInBounds_toArray, List.set_cons_zero, List.set_cons_succ, i64_w, i32_w]
            rfl
          refine pure_ (i := 10) (N := some 41) (v := ?_) (a' := ?_) #[true, true, true, true, true, true, true, true, true, true, true, false, false, false, false, false, false] rfl rfl (by kernel_rfl) (fun _ _ _ h => h) (Or.inl ⟨by rfl, ?_⟩) ?_ ?_
          rotate_left
          · intro w'
            go_simp
            with_reducible rfl
          rotate_left
          · simp only [Act.put, List.setIfInBounds_toArray, List.set_cons_zero, List.set_cons_succ, i64_w, i32_w]
            rfl
          refine pure_ (i := 11) (N := some 42) (v := ?_) (a' := ?_) #[true, true, true, true, true, true, true, true, true, true, true, true, false, false, false, false, false] rfl rfl (by kernel_rfl) (fun _ _ _ h => h) (Or.inl ⟨by rfl, ?_⟩) ?_ ?_
          rotate_left
          · intro w'
            go_simp
            with_reducible rfl
          rotate_left
          · simp only [Act.put, List.setIfInBounds_toArray, List.set_cons_zero, List.set_cons_succ, i64_w, i32_w]
            rfl
          refine pure_ (i := 12) (N := some 43) (v := ?_) (a' := ?_) #[true, true, true, true, true, true, true, true, true, true, true, true, true, false, false, false, false] rfl rfl (by kernel_rfl) (fun _ _ _ h => h) (Or.inl ⟨by rfl, ?_⟩) ?_ ?_
          rotate_left
          · intro w'
            go_simp
            with_reducible rfl
          rotate_left
          · simp only [Act.put, List.setIfInBounds_toArray, List.set_cons_zero, List.set_cons_succ, i64_w, i32_w]
            rfl
          refine pure_ (i := 13) (N := some 44) (v := ?_) (a' := ?_) #[true, true, true, true, true, true, true, true, true, true, true, true, true, true, false, false, false] rfl rfl (by kernel_rfl) (fun _ _ _ h => h) (Or.inl ⟨by rfl, ?_⟩) ?_ ?_
          rotate_left
          · intro w'
            go_simp
            with_reducible rfl
          rotate_left
          · simp only [Act.put, List.setIfInBounds_toArray, List.set_cons_zero, List.set_cons_succ, i64_w, i32_w]
            rfl
          refine pure_ (i := 14) (N := some 45) (v := ?_) (a' := ?_) #[true, true, true, true, true, true, true, true, true, true, true, true, true, true, true, false, false] rfl rfl (by kernel_rfl) (fun _ _ _ h => h) (Or.inl ⟨by rfl, ?_⟩) ?_ ?_
          rotate_left
          · intro w'
            go_simp
            with_reducible rfl
          rotate_left
          · simp only [Act.put, List.setIfInBounds_toArray, List.set_cons_zero, List.set_cons_succ, i64_w, i32_w]
            rfl
          refine pure_ (i := 15) (N := some 46) (v := ?_) (a' := ?_) #[true, true, true, true, true, true, true, true, true, true, true, true, true, true, true, true, false] rfl rfl (by kernel_rfl) (fun _ _ _ h => h) (Or.inl ⟨by rfl, ?_⟩) ?_ ?_
          rotate_left
          · intro w'
            go_simp
            with_reducible rfl
          rotate_left
          · simp only [Act.put, List.setIfInBounds_toArray, List.set_cons_zero, List.set_cons_succ, i64_w, i32_w]
            rfl
          refine pure_ (i := 16) (N := some 2) (v := ?_) (a' := ?_) #[true, true, true, true, true, true, true, true, true, true, true, true, true, true, true, true, true] rfl rfl (by kernel_rfl) (fun _ _ _ h => h) (Or.inl ⟨by rfl, ?_⟩) ?_ ?_
          rotate_left
          · intro w'
            go_simp
            with_reducible rfl
          rotate_left
          · simp only [Act.put, List.setIfInBounds_toArray, List.set_cons_zero, List.set_cons_succ, i64_w, i32_w]
            rfl
          refine done_ (by kernel_rfl) ?_

          go_wp2
          go_ret
          exact ⟨rfl, HB8.out⟩
  · have b1 : decide ((300 : Int) < (l0.length : Int)) = true := decide_eq_true (by omega)
    have b2 : decide (300 < l0.length) = true := decide_eq_true (by omega)
    clear hl
    go_wp2
    go_ret
    exact ⟨rfl, HB1.out⟩
end Go.Proofs.Ytkakcefekabmhaa.X
