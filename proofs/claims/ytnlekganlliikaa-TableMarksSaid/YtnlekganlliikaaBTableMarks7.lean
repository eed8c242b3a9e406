/-
  Parts of one proof, one behind the other: XTabMarks.
-/
import Derived.Test.YtnlekganlliikaaBTableMarks6
import Derived.BigRegion
-- part XTabMarks
namespace Go.Proofs.Ytnlekganlliikaa.X
open Go.RowKit Go.Proofs.YtnlekganlliikaaW.PrintWords Go.Proofs.YtnlekganlliikaaW.PrintLast Go.Proofs.YtnlekganlliikaaW.PrintMore
set_option linter.unusedVariables false
set_option linter.unusedSimpArgs false
/-- How many rows have another mark than a blank. -/
def cntM (c : Nat) (R : List ApiRow) : Nat := (R.filter (fun x => !(x.f0.data.toList[c]? == some 32))).length
theorem cntM_append (c : Nat) (a b : List ApiRow) : cntM c (a ++ b) = cntM c a + cntM c b := by simp [cntM]
theorem cntM_one {c : Nat} {x : ApiRow} {b : UInt8} (h : x.f0.data.toList[c]? = some b) : cntM c [x] = if b = 32 then 0 else 1 := by
  by_cases e : b = 32
  · rw [if_pos e, cntM, List.filter_cons_of_neg (by rw [h, e]; decide)]; rfl
  · rw [if_neg e, cntM, List.filter_cons_of_pos (by rw [h]; simpa using e)]; rfl
section
variable {result : List ByteArray} {ls : List (List ByteArray)}
theorem cntM_seg (hn : ls.length ≤ 16) {c : Nat} (hc : c < ls.length) (q : Nat) : cntM c (segRows result ls q) = (colF c (segRows result ls q)).length := by
  rw [cntM, colF, List.length_map]
  congr 1
  refine List.filter_congr fun x hx => ?_
  obtain ⟨h1, h2, h3⟩ := seg_row hn q x hx
  rw [ofB_nat, seg_lost hn q x hx]
  have hl : c < x.f0.data.toList.length := by rw [← sizeLen, h1]; exact hc
  rw [List.getElem?_eq_getElem hl]
  rcases h2 _ (List.getElem_mem hl) with h | h
  · rw [h]; rfl
  · rw [h]; rfl
theorem line_get {c : Nat} (hc : c < ls.length) (q : Nat) : (bs (marksU result ls q)).data.toList[c]? = some (if 0 ≤ (matchS result ls[c]).getD q 0 then 32 else 43) := by
  show (marksU result ls q).toArray.toList[c]? = _
  rw [marksU, List.toList_toArray, List.getElem?_map, List.getElem?_eq_getElem hc]; rfl
theorem cntM_line {c : Nat} (hc : c < ls.length) (q : Nat) (s : ByteArray) : cntM c [⟨bs (marksU result ls q), s⟩] = if 0 ≤ (matchS result ls[c]).getD q 0 then 0 else 1 := by
  rw [cntM_one (line_get hc q)]
  by_cases h : 0 ≤ (matchS result ls[c]).getD q 0
  · rw [if_pos h, if_pos h, if_pos rfl]
  · rw [if_neg h, if_neg h, if_neg (by decide)]
def pairsN (ms : List Int) (q : Nat) : Nat := ((ms.take q).filter (fun m => decide (0 ≤ m))).length
theorem pairsN_succ {ms : List Int} {q : Nat} (h : q < ms.length) : pairsN ms (q + 1) = pairsN ms q + if 0 ≤ ms.getD q 0 then 1 else 0 := by
  have e : ms.getD q 0 = ms[q] := by rw [List.getD_eq_getElem?_getD, List.getElem?_eq_getElem h]; rfl
  rw [pairsN, ← List.take_append_getElem h, List.filter_append, List.length_append, e]
  by_cases h0 : 0 ≤ ms[q]
  · rw [if_pos h0, List.filter_cons_of_pos (by simpa using h0)]; rfl
  · rw [if_neg h0, List.filter_cons_of_neg (by simpa using h0)]; rfl
theorem cnt_rows (hn : ls.length ≤ 16) {c : Nat} (hc : c < ls.length) : ∀ q, q ≤ result.length → cntM c (tableRows result ls q) + 2 * pairsN (matchS result ls[c]) q = (colF c (tableRows result ls q)).length + q
  | 0, _ => by simp [tableRows, cntM, colF, pairsN]
  | q + 1, h => by
    have ih := cnt_rows hn hc q (by omega)
    have hm : q < (matchS result ls[c]).length := by rw [matchS_length]; exact h
    rw [tableRows_succ _ _ _ h, cntM_append, cntM_append, colF_append, colF_append, List.length_append, List.length_append, cntM_seg hn hc, cntM_line hc, colF_line hc, pairsN_succ hm]
    split <;> simp <;> omega
theorem cnt_all (hn : ls.length ≤ 16) {c : Nat} (hc : c < ls.length) : cntM c (tableAll result ls) + 2 * lcsS result ls[c] = ls[c].length + result.length := by
  have h1 := cnt_rows hn hc result.length (Nat.le_refl _)
  have h2 := colF_all (result := result) hn hc
  have h3 := cntM_seg (result := result) hn hc result.length
  have h4 : pairsN (matchS result ls[c]) result.length = lcsS result ls[c] := by
    rw [pairsN, List.take_of_length_le (by rw [matchS_length]; exact Nat.le_refl _), matchS_count]
  rw [tableAll_eq, colF_append] at h2
  have h5 := congrArg List.length h2
  rw [List.length_append] at h5
  rw [h4] at h1
  rw [tableAll_eq, cntM_append, h3]
  omega
/-- A row's mark. -/
def MarkOk (c : Nat) (x : ApiRow) : Prop := ∃ b : UInt8, x.f0.data.toList[c]? = some b ∧ (b = 45 ∨ b = 32 ∨ (b = 43 ∧ lostB x.f0 = false))
theorem rows_mark (hn : ls.length ≤ 16) {c : Nat} (hc : c < ls.length) : ∀ q, q ≤ result.length → ∀ x ∈ tableRows result ls q, MarkOk c x
  | 0, _, x, hx => by cases hx
  | q + 1, h, x, hx => by
    rw [tableRows_succ _ _ _ h] at hx
    rcases List.mem_append.1 hx with hx | hx
    · rcases List.mem_append.1 hx with hx | hx
      · exact rows_mark hn hc q (by omega) x hx
      · obtain ⟨h1, h2, h3⟩ := seg_row hn q x hx
        have hl : c < x.f0.data.toList.length := by rw [← sizeLen, h1]; exact hc
        refine ⟨_, List.getElem?_eq_getElem hl, ?_⟩
        rcases h2 _ (List.getElem_mem hl) with h | h
        · exact .inl h
        · exact .inr (.inl h)
    · rw [List.mem_singleton.1 hx]
      refine ⟨_, line_get hc q, ?_⟩
      by_cases h0 : 0 ≤ (matchS result ls[c]).getD q 0
      · rw [if_pos h0]; exact .inr (.inl rfl)
      · rw [if_neg h0]; exact .inr (.inr ⟨rfl, line_lost q⟩)
theorem all_mark (hn : ls.length ≤ 16) {c : Nat} (hc : c < ls.length) : ∀ x ∈ tableAll result ls, MarkOk c x := by
  intro x hx
  rw [tableAll_eq] at hx
  rcases List.mem_append.1 hx with hx | hx
  · exact rows_mark hn hc _ (Nat.le_refl _) x hx
  · obtain ⟨h1, h2, h3⟩ := seg_row hn _ x hx
    have hl : c < x.f0.data.toList.length := by rw [← sizeLen, h1]; exact hc
    refine ⟨_, List.getElem?_eq_getElem hl, ?_⟩
    rcases h2 _ (List.getElem_mem hl) with h | h
    · exact .inl h
    · exact .inr (.inl h)
end
theorem wim {x : Int} (h : -9223372036854775808 ≤ x) (h2 : x < 9223372036854775808) : IntKind.i64.wrap x = x := IntWalk.i64_in x ⟨h, by omega⟩
theorem cntM_le (c : Nat) (R : List ApiRow) : cntM c R ≤ R.length := List.length_filter_le ..
set_option maxRecDepth 100000 in
set_option maxHeartbeats 8000000 in
theorem law_TableMarks (W : World) (A0 : Option Addr) (c0 : Nat) (l0 : List ByteArray) (hr0 : Kd.C Kd.string W A0 l0.length l0) (hc0 : l0.length ≤ c0) (g0 : l0.length * 16 ≤ 140737488351232 ∧ ∀ y ∈ l0, y.size ≤ 140737488351232) (A1 : Option Addr) (c1 : Nat) (l1 : List (List ByteArray)) (hr1 : Kd.C (Kd.slice 9 Kd.string) W A1 l1.length l1) (hc1 : l1.length ≤ c1) (g1 : l1.length * 24 ≤ 140737488351232 ∧ ∀ y ∈ l1, y.length * 16 ≤ 140737488351232 ∧ ∀ yy ∈ y, yy.size ≤ 140737488351232) :
    Calls Try.prog 11 #[.slice A0 l0.length c0, .slice A1 l1.length c1] W fun e w' => e = .returned (.bool true) ∧ Below W.heap.size W w' := by
  clear g0 g1
  have HR0 := Aside0.mk hr0
  have HC0 := Aside0.mk hc0
  have HR1 := Aside0.mk hr1
  have HC1 := Aside0.mk hc1
  clear hr0 hc0 hr1 hc1
  obtain ⟨b, ⟨k, hk⟩, hb⟩ := ref_May20 l0 l1
  have HMAY : Aside0 (sennitref20_May.f k l0 l1 = some b) := ⟨hk k (Nat.le_refl _)⟩
  have HBT := Aside0.mk hb
  clear hk hb
  go_enter Try.func11, Try.ntmps11
  go_wp2_with fail
  refine (sennitlaw20_awake.calls true W awake20).mono ?_
  rintro e w1 ⟨rfl, hb1⟩
  have HB1 := Aside0.mk hb1
  clear hb1
  go_wp2_with fail
  refine (sennitref20_May.calls k A0 c0 l0 A1 c1 l1 b w1 (Kd.C_below HR0.out HB1.out) HC0.out (Kd.C_below HR1.out HB1.out) HC1.out HMAY.out).mono ?_
  rintro e w2' ⟨rfl, n2, rfl⟩
  obtain ⟨w2, hw2⟩ : ∃ w2, w1.drewN n2 = w2 := ⟨_, rfl⟩
  have HB2 : Aside0 (Below W.heap.size W w2) := ⟨by rw [← hw2]; exact pw_below_drewN HB1.out n2⟩
  rw [hw2]
  clear hw2
  cases b with
  | false =>
    go_wp2
    go_ret
    exact ⟨rfl, HB2.out⟩
  | true =>
    obtain ⟨hF, hw⟩ := HBT.out rfl
    have h6 := hF.2.1
    have h16 := hF.1.1
    have ht : table_Table.f l0 l1 = some (tableAll l0 l1, 0) := by rw [hF.table, tableF, if_neg (by simpa using hw)]
    have hall := hF.all
    have HT := Aside0.mk ht
    have HF := Aside0.mk hF
    clear ht hw hF HBT HMAY
    go_wp2_with fail
    refine (table_Table.calls A0 c0 l0 A1 c1 l1 _ _ w2 (Kd.C_below HR0.out HB2.out) HC0.out (Kd.C_below HR1.out HB2.out) HC1.out HT.out).mono ?_
    rintro e w3 ⟨v3, rfl, hr3, hb3⟩
    obtain ⟨AR, cR, rfl⟩ := Kd.R_slice hr3
    have HB3 : Aside0 (Below W.heap.size W w3) := ⟨far_ HB2.out hb3⟩
    have HCR := Aside0.mk (Kd.R_reads' hr3).2.2
    have HZ : Aside0 (∀ x ∈ tableAll l0 l1, x.f0.size = l1.length) := ⟨all_size (by omega)⟩
    have HMK : Aside0 (∀ c (hc : c < l1.length), ∀ x ∈ tableAll l0 l1, MarkOk c x) := ⟨fun c hc => all_mark (by omega) hc⟩
    have HCN : Aside0 (∀ c (hc : c < l1.length), cntM c (tableAll l0 l1) + 2 * lcsS l0 l1[c] = l1[c].length + l0.length) := ⟨fun c hc => cnt_all (by omega) hc⟩
    obtain ⟨M, hM⟩ : ∃ M, tableAll l0 l1 = M := ⟨_, rfl⟩
    rw [hM] at hall HCR HZ HMK HCN ⊢
    clear hr3 hb3 hM HT
    go_wp2_with fail
    go_loopw [8] (fun s8 wr => ∃ (i : Nat), s8 = .int .i64 i ∧ i ≤ l1.length ∧ Aside0 (Below w3.heap.size w3 wr)) (fun s8 _ => l1.length - (intOf s8).toNat)
    case atStart => exact ⟨0, rfl, Nat.zero_le _, ⟨Below.refl _ _⟩⟩
    case round =>
      obtain ⟨wo, rfl⟩ : ∃ wq, wq = wr := ⟨_, rfl⟩
      obtain ⟨i, rfl, hi, HW⟩ := hrel
      by_cases hi' : i < l1.length
      · have d1 : decide ((i : Int) < (l1.length : Int)) = true := decide_eq_true (by omega)
        have d2 : decide (i < l1.length) = true := decide_eq_true hi'
        have HBr : Aside0 (Below W.heap.size W wo) := ⟨far_ HB3.out HW.out⟩
        obtain ⟨ad, Ai, ci, rfl, xi, hci, kci⟩ := at_slice (Kd.C_below HR1.out HBr.out) i hi'
        have hg : l1.getD i [] = l1[i] := by simp [hi']
        rw [hg] at xi hci kci
        have hp := HF.out.2.2 l1[i] (List.getElem_mem _)
        obtain ⟨li, hli⟩ : ∃ li, l1[i] = li := ⟨_, rfl⟩
        have hcn := HCN.out i hi'
        rw [hli] at xi hci kci hp hcn
        have HKC := Aside0.mk kci
        have HCI := Aside0.mk hci
        have HP := Aside0.mk hp
        have HCNI := Aside0.mk hcn
        have hli16 : li.length ≤ 16 := hp.1
        have hids : intern_All.f [l0, li] = some (idsAll [l0, li]) := by
          rw [intern_All.f, if_pos ⟨by simp, by simp [total]; omega, fun l hl s hs => by
            simp only [List.mem_cons, List.not_mem_nil, or_false] at hl
            rcases hl with rfl | rfl
            · have := HF.out.1.2 s hs; unfold maxLen; omega
            · have := HP.out.2 s hs; unfold maxLen; omega⟩]
        rw [idsAll_map] at hids
        have HIDS := Aside0.mk hids
        have HXI := Aside0.mk xi
        clear hg hli kci hci hp hcn hids
        go_wp2_with fail
        refine (all_two A0 Ai c0 ci l0.length _ l0 li _ wo rfl rfl (Kd.C_below HR0.out HBr.out) HC0.out HKC.out HCI.out HIDS.out).mono ?_
        rintro e w4 ⟨v4, rfl, HS4, HB4⟩
        obtain ⟨ia, hia⟩ : ∃ ia, l0.map (num (tabOf [] [l0, li])) = ia := ⟨_, rfl⟩
        obtain ⟨ib, hib⟩ : ∃ ib, li.map (num (tabOf [] [l0, li])) = ib := ⟨_, rfl⟩
        have HLCS : Aside0 (lcsL ia ib = lcsS l0 li) := ⟨by rw [← hia, ← hib]; exact lcsS_num fun x hx => tabAll (List.mem_cons_self ..) hx⟩
        have la : ia.length ≤ 2000 := by rw [← hia, List.length_map]; omega
        have lb : ib.length ≤ 2000 := by rw [← hib, List.length_map]; omega
        have hs4 : Kd.S KI 49 w4 wo.heap.size (fun _ => True) v4 [ia, ib] := by rw [← hia, ← hib]; exact HS4.out
        obtain ⟨gi, cI, A0', c0', A1', c1', rfl, x0, x1, k0, m0, k1, m1⟩ := S_two hs4
        have K0 := Aside0.mk k0
        have M0 := Aside0.mk m0
        have K1 := Aside0.mk k1
        have M1 := Aside0.mk m1
        have HW4 : Aside0 (Below w3.heap.size w3 w4) := ⟨far_ HW.out HB4.out⟩
        clear hia hib hs4 k0 m0 k1 m1 HS4
        go_wp2
        refine start_ (n := 12) (S := fun w' => w'.cell? ⟨gi, 0, none⟩ = some (.slice A0' ia.length c0') ∧ w'.cell? ⟨gi, 1, none⟩ = some (.slice A1' ib.length c1')) (ds := []) #[false, false, false, false, false, false, false, false, false, false, false, false] (by kernel_rfl) rfl rfl ⟨x0, x1⟩ (fun hHeld => ?_)
        refine pure_ (i := 0) (N := some 44) (v := ?_) (a' := ?_) #[true, false, false, false, false, false, false, false, false, false, false, false] rfl rfl (by kernel_rfl) (fun _ _ _ h => h) (Or.inl ⟨by rfl, ?_⟩) ?_ ?_
        rotate_left
        · intro w'
          go_simp
          with_reducible rfl
        rotate_left
        · simp only [Act.put, List.setIfInBounds_toArray, List.set_cons_zero, List.set_cons_succ, i64_w, i32_w]
          rfl
        refine pure_ (i := 1) (N := some 45) (v := ?_) (a' := ?_) #[true, true, false, false, false, false, false, false, false, false, false, false] rfl rfl (by kernel_rfl) (fun _ _ _ h => h) (Or.inl ⟨by rfl, ?_⟩) ?_ ?_
        rotate_left
        · intro w'
          go_simp
          with_reducible rfl
        rotate_left
        · simp only [Act.put, List.setIfInBounds_toArray, List.set_cons_zero, List.set_cons_succ, i64_w, i32_w]
          rfl
        refine pure_ (i := 3) (N := some 47) (v := ?_) (a' := ?_) #[true, true, false, true, false, false, false, false, false, false, false, false] rfl rfl (by kernel_rfl) (fun _ _ _ h => h) (Or.inl ⟨by rfl, ?_⟩) ?_ ?_
        rotate_left
        · intro w'
          go_simp
          with_reducible rfl
        rotate_left
        · simp only [Act.put, List.setIfInBounds_toArray, List.set_cons_zero, List.set_cons_succ, i64_w, i32_w]
          rfl
        refine pure_ (i := 4) (N := some 48) (v := ?_) (a' := ?_) #[true, true, false, true, true, false, false, false, false, false, false, false] rfl rfl (by kernel_rfl) (fun _ _ _ h => h) (Or.inl ⟨by rfl, ?_⟩) ?_ ?_
        rotate_left
        · intro w'
          go_simp
          with_reducible rfl
        rotate_left
        · simp only [Act.put, List.setIfInBounds_toArray, List.set_cons_zero, List.set_cons_succ, i64_w, i32_w]
          rfl
        refine take_ (i := 2) (N := some 46) (v := ?_) (a' := ?_) #[true, true, true, true, true, false, false, false, false, false, false, false] rfl rfl (by kernel_rfl) (fun _ _ _ h => h) (Or.inl ⟨by rfl, ?_⟩) hHeld ?_ ?_
        rotate_left
        · rintro w' ⟨s0, s1⟩
          go_simp
          with_reducible rfl
        rotate_left
        · simp only [Act.put, List.setIfInBounds_toArray, List.set_cons_zero, List.set_cons_succ, i64_w, i32_w]
          rfl
        refine take_ (i := 5) (N := some 49) (v := ?_) (a' := ?_) #[true, true, true, true, true, true, false, false, false, false, false, false] rfl rfl (by kernel_rfl) (fun _ _ _ h => h) (Or.inl ⟨by rfl, ?_⟩) hHeld ?_ ?_
        rotate_left
        · rintro w' ⟨s0, s1⟩
          go_simp
          with_reducible rfl
        rotate_left
        · simp only [Act.put, List.setIfInBounds_toArray, List.set_cons_zero, List.set_cons_succ, i64_w, i32_w]
          rfl
        refine one_ (i := 6) (N := some 50) #[true, true, true, true, true, true, true, false, false, false, false, false] rfl rfl (by kernel_rfl) (by decide) (fun K hK => ?_)
        refine goes_ Try.func31 (by kernel_rfl) rfl #[.slice A0' ia.length c0', .slice A1' ib.length c1'] (by rfl) rfl rfl (by simp only [List.map_toArray, List.map_cons, List.map_nil]; rfl) ?_
        with_reducible refine (lcs_New_pair A0' c0' ia A1' c1' ib w4.drew (Kd.C_drew K0.out) M0.out (Kd.C_drew K1.out) M1.out la lb).mono ?_
        rintro e4 w5 ⟨gp, d, rfl, HGP, HPI, HB5⟩
        refine ⟨_, rfl, ?_⟩
        have HW5 : Aside0 (Below w4.heap.size w4 w5) := ⟨(Below.refl _ w4).drew.trans HB5.out⟩
        have y0 : w5.cell? ⟨gi, 0, none⟩ = some (.slice A0' ia.length c0') := (HW5.out.cell (World.block_lt_of_cell? w4 _ x0)).trans x0
        have y1 : w5.cell? ⟨gi, 1, none⟩ = some (.slice A1' ib.length c1') := (HW5.out.cell (World.block_lt_of_cell? w4 _ x1)).trans x1
        refine hK.out _ _ ⟨y0, y1⟩ (fun hHeld => ?_)
        clear hK K
        refine norm_ (a' := ?_) ?_ ?_
        rotate_left
        · show Act.put _ (some 50) _ = _
          simp only [Act.put, List.setIfInBounds_toArray, List.set_cons_zero, List.set_cons_succ, i64_w, i32_w]
          rfl
        refine pure_ (i := 7) (N := some 43) (v := ?_) (a' := ?_) #[true, true, true, true, true, true, true, true, false, false, false, false] rfl rfl (by kernel_rfl) (fun _ _ _ h => h) (Or.inl ⟨by rfl, ?_⟩) ?_ ?_
        rotate_left
        · intro w'
          go_simp
          with_reducible rfl
        rotate_left
        · simp only [Act.put, List.setIfInBounds_toArray, List.set_cons_zero, List.set_cons_succ, i64_w, i32_w]
          rfl
        refine pure_ (i := 8) (N := some 51) (v := ?_) (a' := ?_) #[true, true, true, true, true, true, true, true, true, false, false, false] rfl rfl (by kernel_rfl) (fun _ _ _ h => h) (Or.inl ⟨by rfl, ?_⟩) ?_ ?_
        rotate_left
        · intro w'
          go_simp
          with_reducible rfl
        rotate_left
        · simp only [Act.put, List.setIfInBounds_toArray, List.set_cons_zero, List.set_cons_succ, i64_w, i32_w]
          rfl
        refine pure_ (i := 9) (N := some 52) (v := ?_) (a' := ?_) #[true, true, true, true, true, true, true, true, true, true, false, false] rfl rfl (by kernel_rfl) (fun _ _ _ h => h) (Or.inl ⟨by rfl, ?_⟩) ?_ ?_
        rotate_left
        · intro w'
          go_simp
          with_reducible rfl
        rotate_left
        · simp only [Act.put, List.setIfInBounds_toArray, List.set_cons_zero, List.set_cons_succ, i64_w, i32_w]
          rfl
        refine pure_ (i := 10) (N := some 10) (v := ?_) (a' := ?_) #[true, true, true, true, true, true, true, true, true, true, true, false] rfl rfl (by kernel_rfl) (fun _ _ _ h => h) (Or.inl ⟨by rfl, ?_⟩) ?_ ?_
        rotate_left
        · intro w'
          go_simp
          with_reducible rfl
        rotate_left
        · simp only [Act.put, List.setIfInBounds_toArray, List.set_cons_zero, List.set_cons_succ, i64_w, i32_w]
          rfl
        refine pure_ (i := 11) (N := some 11) (v := ?_) (a' := ?_) #[true, true, true, true, true, true, true, true, true, true, true, true] rfl rfl (by kernel_rfl) (fun _ _ _ h => h) (Or.inl ⟨by rfl, ?_⟩) ?_ ?_
        rotate_left
        · intro w'
          go_simp
          with_reducible rfl
        rotate_left
        · simp only [Act.put, List.setIfInBounds_toArray, List.set_cons_zero, List.set_cons_succ, i64_w, i32_w]
          rfl
        refine done_ (by kernel_rfl) ?_

        clear x0 x1 y0 y1
        have HW35 : Aside0 (Below w3.heap.size w3 w5) := ⟨far_ HW4.out HW5.out⟩
        have HGW : Aside0 (w3.heap.size ≤ gp) := ⟨Nat.le_trans HW4.out.size (by have := HGP.out; simpa using this)⟩
        have HGR : Aside0 (wo.heap.size ≤ gp) := ⟨Nat.le_trans HB4.out.size (by have := HGP.out; simpa using this)⟩
        clear HGP HB5
        go_wp2_with fail
        go_loopw [12, 13] (fun s12 s13 wq => ∃ (j : Nat), s12 = .int .i64 (cntM i (M.take j) : Nat) ∧ s13 = .int .i64 j ∧ j ≤ M.length ∧ Aside0 (Below w5.heap.size w5 wq)) (fun _ s13 _ => M.length - (intOf s13).toNat)
        case atStart => exact ⟨0, rfl, rfl, Nat.zero_le _, ⟨Below.refl _ _⟩⟩
        case round =>
          obtain ⟨j, rfl, rfl, hj, HQ⟩ := hrel
          have HQW : Aside0 (Below w3.heap.size w3 wr) := ⟨far_ HW35.out HQ.out⟩
          by_cases hj' : j < M.length
          · have e1 : decide ((j : Int) < (M.length : Int)) = true := decide_eq_true (by omega)
            have e2 : decide (j < M.length) = true := decide_eq_true hj'
            obtain ⟨ad2, rfl, hx0, hx1⟩ := at_T37 (Kd.C_below HCR.out HQW.out) (j : Int) (by omega) (by omega)
            have er : rd_T37 M (j : Int) = M[j] := getN hj'
            rw [er, Int.toNat_natCast] at hx0 hx1
            have hz := HZ.out M[j] (List.getElem_mem _)
            obtain ⟨c, hc, hcase⟩ := HMK.out i hi' M[j] (List.getElem_mem _)
            have hcnt : cntM i (M.take (j + 1)) = cntM i (M.take j) + if c = 32 then 0 else 1 := by
              rw [← List.take_append_getElem hj', cntM_append, cntM_one hc]
            have hle : cntM i (M.take j) ≤ 3000 := by have := cntM_le i (M.take j); rw [List.length_take] at this; omega
            have HCT := Aside0.mk hcnt
            obtain ⟨n, hn⟩ : ∃ n, cntM i (M.take j) = n := ⟨_, rfl⟩
            rw [hn] at hle HCT ⊢
            obtain ⟨s, hs⟩ : ∃ s, M[j].f0 = s := ⟨_, rfl⟩
            obtain ⟨u, hu⟩ : ∃ u, M[j].f1 = u := ⟨_, rfl⟩
            rw [hs] at hx0 hz hc hcase
            rw [hu] at hx1
            clear hn hs hu er hcnt
            have his : i < s.size := by omega
            have hsc : s[i] = c := by
              rw [List.getElem?_eq_getElem (by rw [← sizeLen]; exact his)] at hc
              have h5 := Option.some.inj hc
              rw [Array.getElem_toList] at h5
              exact h5
            have e3 : decide ((i : Int) < (s.size : Int)) = true := decide_eq_true (by omega)
            have e4 : decide (i < s.size) = true := decide_eq_true his
            have e5 : ((s.size : Int) != (l1.length : Int)) = false := by rw [hz]; simp
            have e6 : (s.size != l1.length) = false := by rw [hz]; simp
            clear hc hz
            rcases hcase with rfl | rfl | ⟨rfl, hlost⟩
            · have HN : Aside0 (cntM i (M.take (j + 1)) = n + 1) := ⟨by rw [HCT.out, if_neg (by decide)]⟩
              clear HCT
              go_wp2
              go_roundw
              case measure => simp [intOf]; omega
              case rel => exact ⟨j + 1, by rw [HN.out]; go_num, by go_num, by omega, HQ⟩
            · have HN : Aside0 (cntM i (M.take (j + 1)) = n) := ⟨by rw [HCT.out, if_pos rfl]; rfl⟩
              clear HCT
              go_wp2
              go_roundw
              case measure => simp [intOf]; omega
              case rel => exact ⟨j + 1, by rw [HN.out], by go_num, by omega, HQ⟩
            · have HN : Aside0 (cntM i (M.take (j + 1)) = n + 1) := ⟨by rw [HCT.out, if_neg (by decide)]⟩
              have HL := Aside0.mk hlost
              clear HCT hlost
              go_wp2_with fail
              refine (table_lost s u _).mono ?_
              rintro e w6 ⟨rfl, hb6⟩
              have HQ6 : Aside0 (Below w5.heap.size w5 w6) := ⟨far_ HQ.out hb6⟩
              clear hb6
              rw [HL.out]
              go_wp2
              go_roundw
              case measure => simp [intOf]; omega
              case rel => exact ⟨j + 1, by rw [HN.out]; go_num, by go_num, by omega, HQ6⟩
          · have e1 : decide ((j : Int) < (M.length : Int)) = false := decide_eq_false (by omega)
            have e2 : decide (j < M.length) = false := decide_eq_false hj'
            have htk : M.take j = M := List.take_of_length_le (by omega)
            rw [htk]
            clear htk
            have hcn := HCNI.out
            rw [← HLCS.out] at hcn
            obtain ⟨n, hn⟩ : ∃ n, cntM i M = n := ⟨_, rfl⟩
            obtain ⟨L, hL⟩ : ∃ L : Int, ((lcsL ia ib : Nat) : Int) = L := ⟨_, rfl⟩
            have hcn2 : (n : Int) + 2 * L = (li.length : Int) + (l0.length : Int) := by rw [← hL]; omega
            have hL0 : 0 ≤ L := by omega
            rw [hn]
            have HLL := Aside0.mk hL
            clear hn hL hcn
            have sa : wrap64 ((li.length : Int) + (l0.length : Int)) = (li.length : Int) + (l0.length : Int) ∧ IntKind.i64.wrap ((li.length : Int) + (l0.length : Int)) = (li.length : Int) + (l0.length : Int) := ⟨gw (by omega) (by omega), wim (by omega) (by omega)⟩
            have sb : wrap64 (2 * L) = 2 * L ∧ IntKind.i64.wrap (2 * L) = 2 * L := by
              clear sa
              exact ⟨gw (by omega) (by omega), wim (by omega) (by omega)⟩
            have sc : wrap64 ((li.length : Int) + (l0.length : Int) - 2 * L) = (n : Int) ∧ IntKind.i64.wrap ((li.length : Int) + (l0.length : Int) - 2 * L) = (n : Int) := by
              clear sa sb
              have : (li.length : Int) + (l0.length : Int) - 2 * L = (n : Int) := by omega
              rw [this]
              exact ⟨gw (by omega) (by omega), wim (by omega) (by omega)⟩
            obtain ⟨sa1, sa2⟩ := sa
            obtain ⟨sb1, sb2⟩ := sb
            obtain ⟨sc1, sc2⟩ := sc
            have HRQ : Aside0 (Below wo.heap.size wo wr) := ⟨far_ (far_ HB4.out HW5.out) HQ.out⟩
            have xq : wr.cell? (ad.add i) = some (.slice Ai li.length ci) := (HRQ.out.cell (World.block_lt_of_cell? _ _ HXI.out)).trans HXI.out
            have HNE : Aside0 (some (ad.add i).block ≠ some gp) := ⟨fun e => by
              have h1 := World.block_lt_of_cell? _ _ HXI.out
              have h2 := HGR.out
              have := Option.some.inj e
              omega⟩
            have HPd : Aside0 (PairIn wr.drew gp ia ib d) := ⟨HPI.out.below HQ.out.drew⟩
            have z : ((n : Int) != (n : Int)) = false := by simp
            clear hcn2
            go_wp2
            refine start_ (n := 14) (S := fun w' => w'.cell? (ad.add i) = some (.slice Ai li.length ci)) (ds := []) #[false, false, false, false, false, false, false, false, false, false, false, false, false, false] (by kernel_rfl) rfl rfl (xq) (fun hHeld => ?_)
            refine pure_ (i := 0) (N := some 100) (v := ?_) (a' := ?_) #[true, false, false, false, false, false, false, false, false, false, false, false, false, false] rfl rfl (by kernel_rfl) (fun _ _ _ h => h) (Or.inl ⟨by rfl, ?_⟩) ?_ ?_
            rotate_left
            · intro w'
              go_simp
              with_reducible rfl
            rotate_left
            · simp only [Act.put, List.setIfInBounds_toArray, List.set_cons_zero, List.set_cons_succ, i64_w, i32_w]
              rfl
            refine pure_ (i := 1) (N := some 101) (v := ?_) (a' := ?_) #[true, true, false, false, false, false, false, false, false, false, false, false, false, false] rfl rfl (by kernel_rfl) (fun _ _ _ h => h) (Or.inl ⟨by rfl, ?_⟩) ?_ ?_
            rotate_left
            · intro w'
              go_simp
              with_reducible rfl
            rotate_left
            · simp only [Act.put, List.setIfInBounds_toArray, List.set_cons_zero, List.set_cons_succ, i64_w, i32_w]
              rfl
            refine pure_ (i := 2) (N := some 102) (v := ?_) (a' := ?_) #[true, true, true, false, false, false, false, false, false, false, false, false, false, false] rfl rfl (by kernel_rfl) (fun _ _ _ h => h) (Or.inl ⟨by rfl, ?_⟩) ?_ ?_
            rotate_left
            · intro w'
              go_simp
              with_reducible rfl
            rotate_left
            · simp only [Act.put, List.setIfInBounds_toArray, List.set_cons_zero, List.set_cons_succ, i64_w, i32_w]
              rfl
            refine pure_ (i := 3) (N := some 103) (v := ?_) (a' := ?_) #[true, true, true, true, false, false, false, false, false, false, false, false, false, false] rfl rfl (by kernel_rfl) (fun _ _ _ h => h) (Or.inl ⟨by rfl, ?_⟩) ?_ ?_
            rotate_left
            · intro w'
              go_simp
              with_reducible rfl
            rotate_left
            · simp only [Act.put, List.setIfInBounds_toArray, List.set_cons_zero, List.set_cons_succ, i64_w, i32_w]
              rfl
            refine pure_ (i := 6) (N := some 106) (v := ?_) (a' := ?_) #[true, true, true, true, false, false, true, false, false, false, false, false, false, false] rfl rfl (by kernel_rfl) (fun _ _ _ h => h) (Or.inl ⟨by rfl, ?_⟩) ?_ ?_
            rotate_left
            · intro w'
              go_simp
              with_reducible rfl
            rotate_left
            · simp only [Act.put, List.setIfInBounds_toArray, List.set_cons_zero, List.set_cons_succ, i64_w, i32_w]
              rfl
            refine pure_ (i := 7) (N := some 107) (v := ?_) (a' := ?_) #[true, true, true, true, false, false, true, true, false, false, false, false, false, false] rfl rfl (by kernel_rfl) (fun _ _ _ h => h) (Or.inl ⟨by rfl, ?_⟩) ?_ ?_
            rotate_left
            · intro w'
              go_simp
              with_reducible rfl
            rotate_left
            · simp only [Act.put, List.setIfInBounds_toArray, List.set_cons_zero, List.set_cons_succ, i64_w, i32_w]
              rfl
            refine pure_ (i := 9) (N := some 109) (v := ?_) (a' := ?_) #[true, true, true, true, false, false, true, true, false, true, false, false, false, false] rfl rfl (by kernel_rfl) (fun _ _ _ h => h) (Or.inl ⟨by rfl, ?_⟩) ?_ ?_
            rotate_left
            · intro w'
              go_simp
              with_reducible rfl
            rotate_left
            · simp only [Act.put, List.setIfInBounds_toArray, List.set_cons_zero, List.set_cons_succ, i64_w, i32_w]
              rfl
            refine take_ (i := 4) (N := some 104) (v := ?_) (a' := ?_) #[true, true, true, true, true, false, true, true, false, true, false, false, false, false] rfl rfl (by kernel_rfl) (fun _ _ _ h => h) (Or.inl ⟨by rfl, ?_⟩) hHeld ?_ ?_
            rotate_left
            · intro w' s0
              go_simp
              with_reducible rfl
            rotate_left
            · simp only [Act.put, List.setIfInBounds_toArray, List.set_cons_zero, List.set_cons_succ, i64_w, i32_w]
              rfl
            refine pure_ (i := 5) (N := some 105) (v := ?_) (a' := ?_) #[true, true, true, true, true, true, true, true, false, true, false, false, false, false] rfl rfl (by kernel_rfl) (fun _ _ _ h => h) (Or.inl ⟨by rfl, ?_⟩) ?_ ?_
            rotate_left
            · intro w'
              go_simp
              with_reducible rfl
            rotate_left
            · simp only [Act.put, List.setIfInBounds_toArray, List.set_cons_zero, List.set_cons_succ, i64_w, i32_w]
              rfl
            refine pure_ (i := 8) (N := some 108) (v := ?_) (a' := ?_) #[true, true, true, true, true, true, true, true, true, true, false, false, false, false] rfl rfl (by kernel_rfl) (fun _ _ _ h => h) (Or.inl ⟨by rfl, ?_⟩) ?_ ?_
            rotate_left
            · intro w'
              go_simp
              with_reducible rfl
            rotate_left
            · simp only [Act.put, List.setIfInBounds_toArray, List.set_cons_zero, List.set_cons_succ, i64_w, i32_w]
              rfl
            refine one_ (i := 10) (N := some 110) #[true, true, true, true, true, true, true, true, true, true, true, false, false, false] rfl rfl (by kernel_rfl) (by decide) (fun K hK => ?_)
            refine goes_ Try.func33 (by kernel_rfl) rfl #[.pointer (some ⟨gp, 0, none⟩)] (by rfl) rfl rfl (by simp only [List.map_toArray, List.map_cons, List.map_nil]; rfl) ?_
            with_reducible refine (pair_Len gp _ _ d _ HPd.out).mono ?_
            rintro e w8 ⟨rfl, hp8, hg8⟩
            refine ⟨_, rfl, ?_⟩
            have y0 : w8.cell? (ad.add i) = some (.slice Ai li.length ci) := hg8.cell xq HNE.out
            have HB8 : Aside0 (Below w3.heap.size w3 w8) := ⟨below_grown HQW.out.drew hg8 HGW.out HQW.out.drew.size⟩
            clear hp8 hg8
            rw [HLL.out]
            refine hK.out _ _ (y0) (fun hHeld => ?_)
            clear hK K
            refine norm_ (a' := ?_) ?_ ?_
            rotate_left
            · show Act.put _ (some 110) _ = _
              simp only [Act.put, List.setIfInBounds_toArray, List.set_cons_zero, List.set_cons_succ, i64_w, i32_w]
              rfl
            refine pure_ (i := 11) (N := some 111) (v := ?_) (a' := ?_) #[true, true, true, true, true, true, true, true, true, true, true, true, false, false] rfl rfl (by kernel_rfl) (fun _ _ _ h => h) (Or.inl ⟨by rfl, ?_⟩) ?_ ?_
            rotate_left
            · intro w'
              go_simp
              with_reducible rfl
            rotate_left
            · simp only [Act.put, List.setIfInBounds_toArray, List.set_cons_zero, List.set_cons_succ, i64_w, i32_w]
              rfl
            refine pure_ (i := 12) (N := some 112) (v := ?_) (a' := ?_) #[true, true, true, true, true, true, true, true, true, true, true, true, true, false] rfl rfl (by kernel_rfl) (fun _ _ _ h => h) (Or.inl ⟨by rfl, ?_⟩) ?_ ?_
            rotate_left
            · intro w'
              go_simp
              with_reducible rfl
            rotate_left
            · simp only [Act.put, List.setIfInBounds_toArray, List.set_cons_zero, List.set_cons_succ, i64_w, i32_w]
              rfl
            refine pure_ (i := 13) (N := some 113) (v := ?_) (a' := ?_) #[true, true, true, true, true, true, true, true, true, true, true, true, true, true] rfl rfl (by kernel_rfl) (fun _ _ _ h => h) (Or.inl ⟨by rfl, ?_⟩) ?_ ?_
            rotate_left
            · intro w'
              go_simp
              with_reducible rfl
            rotate_left
            · simp only [Act.put, List.setIfInBounds_toArray, List.set_cons_zero, List.set_cons_succ, i64_w, i32_w]
              rfl
            refine done_ (by kernel_rfl) ?_

            clear xq y0
            go_wp2
            go_roundw
            case measure => simp [intOf]; omega
            case rel => exact ⟨i + 1, by go_num, by omega, HB8⟩
      · have d1 : decide ((i : Int) < (l1.length : Int)) = false := decide_eq_false (by omega)
        have d2 : decide (i < l1.length) = false := decide_eq_false hi'
        go_wp2
        go_ret
        exact ⟨rfl, far_ HB3.out HW.out⟩
end Go.Proofs.Ytnlekganlliikaa.X
