/-
  Parts of one proof, one behind the other: XTable2, XKn1, XKn3, XTabMath, XTabRows, XTabTells, XGapSame, XTabSame.
-/
import Derived.Test.YtnlekganlliikaaBTableSame3
-- part XTable2
namespace Go.Proofs.Ytnlekganlliikaa.X
open Go.RowKit Go.Proofs.YtnlekganlliikaaW.PrintWords Go.Proofs.YtnlekganlliikaaW.PrintLast Go.Proofs.YtnlekganlliikaaW.PrintMore
open Go.Maps
set_option linter.unusedVariables false
set_option linter.unusedSimpArgs false
def table_Table.f (l0 : List ByteArray) (l1 : List (List ByteArray)) : Option (List S37 × Int) := if tableOk l0 l1 = true then some (tableF l0 l1) else none
/-- All blocks of cells but those of lists and texts stay. -/
def FKeeps (W W' : World) : Prop := ∀ Bb, MKeeps Bb W W'
theorem FKeeps.of_new {W W' : World} (h : MKeeps W'.heap.size W W') : FKeeps W W' := fun Bb => ⟨h.1, fun k c q fr _ hk h1 h2 => h.2 k c q fr (by have := (Array.getElem?_eq_some_iff.1 hk).1; have := h.1; omega) hk h1 h2⟩
theorem FKeeps.trans {W W1 W2 : World} (h : FKeeps W W1) (k : FKeeps W1 W2) : FKeeps W W2 := fun Bb => (h Bb).trans (k Bb)
theorem FKeeps.below {W W1 : World} (h : Below W.heap.size W W1) : FKeeps W W1 := fun Bb => MKeeps.below h
theorem S_fkeeps {W W' : World} {B : Nat} {v : Value} {rows : List (List Int)} (h : Kd.S KI 49 W B (fun _ => True) v rows) (hk : FKeeps W W') : Kd.S KI 49 W' B (fun _ => True) v rows := by
  have h2 := S_types2 h
  refine Kd.S_mono (Kd.S_step h2 (fun k hk' hlt => ?_)) (fun _ _ => trivial)
  obtain ⟨q, hq, _, cells, hc⟩ := hk'
  exact ((hk (W.heap.size)).2 k cells q (0, 0) (by omega) hc (by rcases hq with rfl | rfl <;> decide) (by rcases hq with rfl | rfl <;> decide)).trans hc.symm
theorem R_strs_made {W : World} {g base n : Nat} (h : W.heap[g]? = some (.cells (Array.replicate n (.string ⟨#[]⟩)) 9 (0, 0))) (hb : base ≤ g) (hn : n ≤ 1000000000) : Kd.R Kd.string 9 W base (fun _ => True) (.slice (some ⟨g, 0, none⟩) n n) (List.replicate n ByteArray.empty) := by
  refine ⟨fun _ _ => trivial, List.replicate n (.string ⟨#[]⟩), ⟨by simp [Kd.string, Kd.scalar], .inr ⟨g, n, _, by simp, hb, h, by simp, by unfold maxLen; omega, by simp [Kd.string, Kd.scalar], by simp [Kd.string, Kd.scalar]⟩⟩, by simp [Kd.string, Kd.scalar], fun j p hj => ?_⟩
  obtain ⟨hl, rfl⟩ := List.getElem?_eq_some_iff.1 hj
  rw [List.length_replicate] at hl
  show ((List.replicate n (Value.string ⟨#[]⟩)).drop (j * 1)).take 1 = [Value.string (List.replicate n ByteArray.empty)[j]]
  rw [Nat.mul_one, List.drop_eq_getElem_cons (by simpa using hl), List.getElem_replicate, List.getElem_replicate]
  rfl
set_option maxRecDepth 100000 in
set_option maxHeartbeats 8000000 in
theorem table_Table.calls (A0 : Option Addr) (c0 : Nat) (l0 : List ByteArray) (A1 : Option Addr) (c1 : Nat) (l1 : List (List ByteArray)) (r1 : List S37) (r2 : Int) (w : World) (hr0 : Kd.C Kd.string w A0 l0.length l0) (hc0 : l0.length ≤ c0) (hr1 : Kd.C (Kd.slice 9 Kd.string) w A1 l1.length l1) (hc1 : l1.length ≤ c1) (h : table_Table.f l0 l1 = some (r1, r2)) :
    Calls Try.prog 25 #[.slice A0 l0.length c0, .slice A1 l1.length c1] w fun e w' => ∃ v0_ : Value, e = .returned (.tuple #[v0_, .int .i64 r2]) ∧ Kd.R k37 37 w' w.heap.size (fun _ => True) v0_ r1 ∧ Below w.heap.size w w' := by
  have HR0 := Aside0.mk hr0
  have HC0 := Aside0.mk hc0
  have HR1 := Aside0.mk hr1
  have HC1 := Aside0.mk hc1
  clear hr0 hc0 hr1 hc1
  unfold table_Table.f at h
  split at h
  · rename_i hf
    have h := Option.some.inj h
    rw [tableOk, Bool.and_eq_true, Bool.or_eq_true] at hf
    obtain ⟨hf1, hf2⟩ := hf
    have hf1 := of_decide_eq_true hf1
    have hm : ∀ l ∈ l0 :: l1, Gives (fun k => lines_May.f k l) (mayL l) := fun l hl => may_gives l (by have := (hf1.2.2 l hl).1; omega) (fun s hs => by have := (hf1.2.2 l hl).2 s hs; omega)
    have hN : l1.length ≤ 1000 := hf1.2.1
    have hn : l0.length ≤ 1000000 := hf1.1
    have HM := Aside0.mk hm
    have HF1 := Aside0.mk hf1.2.2
    have HF2 : Aside0 (wrongF mayL (l0 :: l1) = 0 → l0.length + sumLen l1 ≤ 2000) := ⟨fun h0 => by
      rcases hf2 with h2 | h2
      · exact absurd h0 (of_decide_eq_true h2)
      · exact of_decide_eq_true h2⟩
    clear hm hf1 hf2
    have HT := Aside0.mk h
    clear h
    go_enter Try.func25, Try.ntmps25
    go_wp2_with fail
    obtain ⟨w1, hw1⟩ : ∃ w1, (w.alloc (.cells #[.slice A0 l0.length c0] 34)).alloc (.cells #[.slice (some ⟨w.heap.size, 0, none⟩) 1 1, .slice A1 l1.length c1] 22) = w1 := ⟨_, rfl⟩
    have hb1 : Below w.heap.size w w1 := by rw [← hw1]; exact ((Below.refl _ w).alloc (Nat.le_refl _) _).alloc (by simp) _
    have q0 : w1.heap[w.heap.size]? = some (.cells #[.slice A0 l0.length c0] 34 (0, 0)) := by rw [← hw1, heap_alloc_old _ _ (by simp)]; exact blk_new _ _
    have q1 : w1.heap[w.heap.size + 1]? = some (.cells #[.slice (some ⟨w.heap.size, 0, none⟩) 1 1, .slice A1 l1.length c1] 22 (0, 0)) := by rw [← hw1]; have := blk_new (w.alloc (.cells #[.slice A0 l0.length c0] 34)) (.cells #[.slice (some ⟨w.heap.size, 0, none⟩) 1 1, .slice A1 l1.length c1] 22); simpa using this
    rw [hw1]
    have k0 : KS.K w1 l0 [.slice A0 l0.length c0] := ⟨A0, c0, rfl, HC0.out, Kd.C_below HR0.out hb1⟩
    have kk0 : (Kd.slice 34 KS).K w1 [l0] [.slice (some ⟨w.heap.size, 0, none⟩) 1 1] := ⟨_, 1, rfl, Nat.le_refl _, C_blk (d := KS) (xs := [l0]) (inner := [.slice A0 l0.length c0]) q0 (Reps.one k0 (Reps.none _ _)) (by simp)⟩
    have kk1 : (Kd.slice 34 KS).K w1 l1 [.slice A1 l1.length c1] := ⟨A1, c1, rfl, HC1.out, Kd.C_below HR1.out hb1⟩
    have hC := C_blk (d := Kd.slice 34 KS) (xs := [[l0], l1]) (inner := [.slice (some ⟨w.heap.size, 0, none⟩) 1 1, .slice A1 l1.length c1]) q1 (Reps.one kk0 (Reps.one kk1 (Reps.none _ _))) (by simp)
    refine (concat_lists _ 2 [[l0], l1] w1 hC (by simp) (by simp) (by simp; omega)).mono ?_
    rintro e w2 ⟨v2, rfl, HR2, HB2⟩
    obtain ⟨A2, c2, rfl, hc2, hC2⟩ := R_held_reads HR2.out HB2.out
    have hfl : ([[l0], l1] : List (List (List ByteArray))).flatten = l0 :: l1 := by simp
    obtain ⟨fs, hfs⟩ : ∃ fs, l0 :: l1 = fs := ⟨_, rfl⟩
    rw [hfl, hfs] at hc2 hC2 ⊢
    have HFS := Aside0.mk hfs
    have hfl1 : fs.length = l1.length + 1 := by rw [← hfs]; rfl
    have HFL := Aside0.mk hfl1
    rw [hfs] at HM HF1 HF2
    have HB2' : Aside0 (Below w.heap.size w w2) := ⟨far_ hb1 HB2.out⟩
    have HC2 := Aside0.mk hC2
    have Hc2 := Aside0.mk hc2
    clear hw1 hb1 q0 q1 k0 kk0 kk1 hC HR2 HB2 hfl hc2 hC2 hfs hfl1
    go_wp2_with fail
    refine (wrong_calls mayL A2 c2 fs w2 HM.out (fun l hl => by have := (HF1.out l hl).1; omega) HC2.out Hc2.out (by rw [HFL.out]; omega)).mono ?_
    rintro e w3' ⟨rfl, n3, rfl⟩
    obtain ⟨w3, hw3⟩ : ∃ w3, w2.drewN n3 = w3 := ⟨_, rfl⟩
    have HB3 : Aside0 (Below w.heap.size w w3) := ⟨by rw [← hw3]; exact pw_below_drewN HB2'.out n3⟩
    have HC3 : Aside0 (KS.C w3 A2 fs.length fs) := ⟨by rw [← hw3]; exact Kd.C_drewN HC2.out n3⟩
    rw [hw3]
    have hT := HT.out
    rw [tableF, HFS.out] at hT
    obtain ⟨cde, hcde⟩ : ∃ c, wrongF mayL fs = c := ⟨_, rfl⟩
    rw [hcde] at HF2 hT ⊢
    have HCDE := Aside0.mk hcde
    clear hw3 hcde
    by_cases hc : cde = 0
    · subst hc
      rw [if_neg (fun h => h rfl)] at hT
      obtain ⟨e1, e2⟩ := Prod.mk.inj hT
      have HR1e := Aside0.mk e1
      subst e2
      clear hT e1 HT
      have hsum := HF2.out rfl
      have hn16 : l1.length ≤ 16 ∧ 1 ≤ l1.length := by
        have hw := HCDE.out
        unfold wrongF at hw
        by_cases hh : fs.length < 2 ∨ 17 < fs.length
        · rw [if_pos hh] at hw; omega
        · have := HFL.out; omega
      have htot : total fs ≤ 1000000 := by
        rw [← HFS.out]
        simp only [total, sumLen, List.map_cons, List.sum_cons] at hsum ⊢
        omega
      have HIDS : Aside0 (intern_All.f fs = some (idsAll fs)) := ⟨by
        rw [intern_All.f, if_pos ⟨by rw [HFL.out]; omega, htot, fun l hl s hs => by have := (HF1.out l hl).2 s hs; unfold maxLen; omega⟩]⟩
      have HIM : Aside0 (idsAll fs = fs.map (fun l => l.map (num (tabOf [] fs)))) := ⟨idsAll_map fs⟩
      go_wp2_with fail
      refine (intern_All.calls A2 c2 fs (idsAll fs) w3 HC3.out Hc2.out HIDS.out).mono ?_
      rintro e w4 ⟨v4, rfl, hs4, hb4⟩
      rw [HIM.out] at hs4
      obtain ⟨ids, hids⟩ : ∃ ids, fs.map (fun l => l.map (num (tabOf [] fs))) = ids := ⟨_, rfl⟩
      rw [hids] at hs4
      have hidl : ids.length = l1.length + 1 := by rw [← hids, List.length_map, HFL.out]
      obtain ⟨gi, ci, rfl, hgi, hgis, icells, hic⟩ := Kd.S_form hs4 (by omega)
      have HS4 := Aside0.mk hs4
      have HIDL := Aside0.mk hidl
      have HIDE := Aside0.mk hids
      have hci : l1.length + 1 ≤ ci := by have := (Kd.S_reads' hs4).2.1; omega
      have HB4 : Aside0 (Below w.heap.size w w4) := ⟨far_ HB3.out hb4⟩
      rw [hidl]
      clear hs4 hidl hids hb4 hic
      have hmk : ∀ W : World, (Instr.makeSlice 34 (.int .i64 ((l0.length : Int) + 1)) (.int .i64 ((l0.length : Int) + 1))).run Try.prog W = .ok (.slice (some ⟨W.heap.size, 0, none⟩) (l0.length + 1) (l0.length + 1)) (W.alloc (.cells (Array.replicate (l0.length + 1) (.string ⟨#[]⟩)) 9)) := by
        obtain ⟨i0, hi0, hz0⟩ := Option.map_eq_some_iff.1 info9
        simp only [Prod.mk.injEq] at hz0
        obtain ⟨hz, hsz, hby⟩ := hz0
        intro W
        have h := run_make (P := Try.prog) W 34 9 i0 (.string ⟨#[]⟩) Try.underlying34 hi0 hz .i64 .i64 ((l0.length : Int) + 1) ((l0.length : Int) + 1) (by omega) (by omega) (by rw [hby]; omega) (by omega)
        rw [h, hsz]
        have e : ((l0.length : Int) + 1).toNat = l0.length + 1 := by omega
        rw [e, show (Value.string ⟨#[]⟩).cells = #[Value.string ⟨#[]⟩] from rfl, madeCells_one, List.toArray_replicate]
      have hmm := @run_makeMap Try.prog
      go_upto_region 7 with (fail)
      obtain ⟨w6, hw6⟩ : ∃ w6, ((w4.alloc (.cells (Array.replicate (l0.length + 1) (.string ⟨#[]⟩)) 9)).alloc (.map #[] 0)).alloc (.cells #[.slice A1 l1.length c1, .slice (some ⟨w4.heap.size, 0, none⟩) (l0.length + 1) (l0.length + 1), .map (some (w4.heap.size + 1)), .slice none 0 0, .int .i64 0] 78) = w6 := ⟨_, rfl⟩
      have hb6 : Below w4.heap.size w4 w6 := by rw [← hw6]; exact (((Below.refl _ w4).alloc (Nat.le_refl _) _).alloc (by simp) _).alloc (by simp; omega) _
      have hI6 : MakerIn w w6 w.heap.size (w4.heap.size + 1 + 1) l1.length A1 c1 0 (List.replicate (l0.length + 1) ByteArray.empty) (fun _ => none) [] 0 := by
        refine ⟨.slice (some ⟨w4.heap.size, 0, none⟩) (l0.length + 1) (l0.length + 1), w4.heap.size + 1, .slice none 0 0, ?_, ?_, R_strs_made ?_ HB4.out.size (by omega), Kd.R_nil _ _ _ _ _, ?_⟩
        · rw [← hw6]
          have := blk_new ((w4.alloc (.cells (Array.replicate (l0.length + 1) (.string ⟨#[]⟩)) 9)).alloc (.map #[] 0)) (.cells #[.slice A1 l1.length c1, .slice (some ⟨w4.heap.size, 0, none⟩) (l0.length + 1) (l0.length + 1), .map (some (w4.heap.size + 1)), .slice none 0 0, .int .i64 0] 78)
          simpa using this
        · have := HB4.out.size; omega
        · rw [← hw6, heap_alloc_old _ _ (by simp; omega), heap_alloc_old _ _ (by simp)]; exact blk_new _ _
        · have hl := LostIn.made (B := w.heap.size) w (w4.alloc (.cells (Array.replicate (l0.length + 1) (.string ⟨#[]⟩)) 9)) l1.length (by have := HB4.out.size; simp; omega)
          have hs : (w4.alloc (.cells (Array.replicate (l0.length + 1) (.string ⟨#[]⟩)) 9)).heap.size = w4.heap.size + 1 := by simp
          rw [hs] at hl
          rw [← hw6]
          exact hl.below ((Below.refl _ _).alloc (Nat.le_refl _) _)
      have hS6 := Kd.S_below HS4.out hb6
      have HB6 : Aside0 (Below w.heap.size w w6) := ⟨far_ HB4.out hb6⟩
      rw [hw6]
      obtain ⟨g, hg⟩ : ∃ g, w4.heap.size + 1 + 1 = g := ⟨_, rfl⟩
      rw [hg] at hI6 ⊢
      have HI6 := Aside0.mk hI6
      have HS6 := Aside0.mk hS6
      obtain ⟨gv, cv, gm, vo, p1, pB, ⟨pcs, p2⟩, p3, p4⟩ := hI6.marks (by simp)
      rw [List.length_replicate] at p1
      have cg1 : w6.cell? ⟨g, 1, none⟩ = some (.slice (some ⟨gv, 0, none⟩) (l0.length + 1) cv) := cell_blk p1 rfl
      obtain ⟨cv0, fv0⟩ := p3 0 (by simp)
      have hI7 := p4 0 ⟨#[32]⟩ (by simp)
      have hS7 : Kd.S KI 49 (w6.setCell ⟨gv, 0, none⟩ (.string ⟨#[32]⟩)) w3.heap.size (fun _ => True) (.slice (some ⟨gi, 0, none⟩) ids.length ci) ids := S_fkeeps (B := w3.heap.size) HS6.out (fun Bb => MKeeps.set p2)
      clear hw6 hb6 hI6 hS6 hg p1 p3 p4 HS4 htot
      have hq1 : ¬ ci = 1 := by omega
      have hq2 : 1 ≤ l1.length + 1 := by omega
      go_upto_block 0 with (fail)
      obtain ⟨w7, hw7⟩ : ∃ w7, w6.setCell ⟨gv, 0, none⟩ (.string ⟨#[32]⟩) = w7 := ⟨_, rfl⟩
      have hb7 : Below w.heap.size w w7 := by rw [← hw7]; exact HB6.out.setCell (p := ⟨gv, 0, none⟩) pB _
      have hm0 : (List.replicate (l0.length + 1) ByteArray.empty).set 0 ⟨#[32]⟩ = marksK l0 l1 0 := rfl
      rw [hm0] at hI7
      rw [hw7] at hI7 hS7 ⊢
      have HI7 := Aside0.mk hI7
      have HS7 := Aside0.mk hS7
      have HB7 := Aside0.mk hb7
      clear hI7 hS7 hb7 hw7 hm0 cg1 cv0 fv0 p2 HI6 HS6 hmk hmm hq1 hq2
      have HLE : Aside0 (l0.length ≤ 2000 ∧ ∀ k, k < l1.length → (l1.getD k []).length ≤ 2000) := ⟨by omega, fun k hk => by
        have : (l1.getD k []).length ≤ sumLen l1 := by
          rw [show l1.getD k [] = l1[k] by simp [hk]]
          exact sumLen_mem (List.getElem_mem hk)
        omega⟩
      have HSUM := Aside0.mk hsum
      have H16 := Aside0.mk hn16
      have HIDG : Aside0 (∀ k, k < fs.length → ids.getD k [] = (fs.getD k []).map (num (tabOf [] fs))) := ⟨fun k hk => by
        rw [← HIDE.out]
        simp [List.getD_eq_getElem?_getD, hk]⟩
      have HFG : Aside0 (fs.getD 0 [] = l0 ∧ ∀ k, fs.getD (k + 1) [] = l1.getD k []) := ⟨by rw [← HFS.out]; exact ⟨rfl, fun k => by simp⟩⟩
      clear hsum hn16
      go_wp2_with fail
      go_loopw [11, 42] (fun _ iv wr => ∃ (k : Nat), iv = .int .i64 k ∧ k ≤ l1.length ∧ Aside0 (MakerIn w wr w.heap.size g l1.length A1 c1 (k * 2002) (marksK l0 l1 k) (lostK l0 l1 k) [] 0) ∧ Aside0 (FKeeps w7 wr) ∧ Aside0 (Below w.heap.size w wr)) (fun _ iv _ => l1.length - (intOf iv).toNat)
      case atStart => exact ⟨0, rfl, Nat.zero_le _, by simpa [lostK, lostFrom] using HI7, ⟨fun Bb => MKeeps.refl _ _⟩, HB7⟩
      case round =>
        obtain ⟨k, rfl, hk, HI, HK, HBr⟩ := hrel
        have HSr : Aside0 (Kd.S KI 49 wr w3.heap.size (fun _ => True) (.slice (some ⟨gi, 0, none⟩) ids.length ci) ids) := ⟨S_fkeeps HS7.out HK.out⟩
        have hid0 : 0 < ids.length := by rw [HIDL.out]; omega
        have hCr := (Kd.S_reads' HSr.out).2.2
        by_cases hlt : k < l1.length
        · obtain ⟨ad, E0, d0, ead, x0, le0, kc0⟩ := at_slice hCr 0 hid0
          cases ead
          obtain ⟨ad, E1, d1, ead, x1, le1, kc1⟩ := at_slice hCr (k + 1) (by rw [HIDL.out]; omega)
          cases ead
          rw [add0_] at x0 x1
          have eg0 := HIDG.out 0 (by rw [HFL.out]; omega)
          have eg1 := HIDG.out (k + 1) (by rw [HFL.out]; omega)
          rw [HFG.out.1] at eg0
          rw [HFG.out.2] at eg1
          have hmat : matchOf (ids.getD 0 []) (ids.getD (k + 1) []) = matchS l0 (l1.getD k []) := by
            rw [eg0, eg1]
            exact matchS_num fun x hx => tabAll (ls := fs) (by rw [← HFS.out]; simp) hx
          have hla : (ids.getD 0 []).length = l0.length := by rw [eg0, List.length_map]
          have hlb : (ids.getD (k + 1) []).length = (l1.getD k []).length := by rw [eg1, List.length_map]
          obtain ⟨a, ha⟩ : ∃ a, ids.getD 0 [] = a := ⟨_, rfl⟩
          obtain ⟨b, hb⟩ : ∃ b, ids.getD (k + 1) [] = b := ⟨_, rfl⟩
          rw [ha] at x0 le0 kc0 hmat hla
          rw [hb] at x1 le1 kc1 hmat hlb
          have HMAT := Aside0.mk hmat
          have HLA := Aside0.mk hla
          have HLB := Aside0.mk hlb
          have KC0 := Aside0.mk kc0
          have KC1 := Aside0.mk kc1
          have LE0 := Aside0.mk le0
          have LE1 := Aside0.mk le1
          have x1' : wr.cell? ⟨gi, 1 + k, none⟩ = some (.slice E1 b.length d1) := by rw [Nat.add_comm]; exact x1
          clear eg0 eg1 ha hb hmat hla hlb kc0 kc1 le0 le1 hCr hid0
          go_wp2_with fail
          obtain ⟨hm1, hm2, hm3⟩ := marksK_ok l0 l1 k (by omega)
          refine (pair_calls w wr w.heap.size g l1.length c1 (k * 2002) k A1 l1 (marksK l0 l1 k) (lostK l0 l1 k) [] 0 E0 d0 a E1 d1 b HR1.out rfl HBr.out HI.out hlt (by rw [HLA.out]; exact hm1) hm2 KC0.out LE0.out KC1.out LE1.out HLB.out (by rw [HLA.out]; exact HLE.out.1) (by rw [HLB.out]; exact HLE.out.2 k hlt) (fun s hs => by have := marks_small hm1 hm2 hm3 s hs; omega) hN (by omega)).mono ?_
          rintro e' w' ⟨rfl, HI', HB', HK'⟩
          rw [HMAT.out, ← marksK_succ _ _ hlt, ← lostK_succ _ _ hlt] at HI'
          go_wp2
          go_roundw
          case measure => simp [intOf]; omega
          case rel => exact ⟨k + 1, by go_num, by omega, ⟨HI'.out.mono (by rw [HLA.out]; have := HLE.out.1; omega)⟩, ⟨HK.out.trans (FKeeps.of_new HK'.out)⟩, ⟨HBr.out.trans HB'.out⟩⟩
        · have hk' : k = l1.length := by omega
          subst hk'
          obtain ⟨mks, hmks⟩ : ∃ M, marksK l0 l1 l1.length = M := ⟨_, rfl⟩
          obtain ⟨lst, hlst⟩ : ∃ L, lostK l0 l1 l1.length = L := ⟨_, rfl⟩
          have hmall : marksAll l0 l1 = mks := by rw [← hmks, marksK, List.take_length]
          have hlall : lostAll l0 l1 = lst := by rw [← hlst, lostK, List.take_length]; rfl
          have hmok := marksK_ok l0 l1 l1.length (Nat.le_refl _)
          have hlok := LostOk.all l0 l1
          rw [hmks] at HI hmok
          rw [hlst] at HI
          rw [hlall] at hlok
          have HMOK := Aside0.mk hmok
          have HLOK := Aside0.mk hlok
          have HTR : Aside0 (∀ k, tableRows l0 l1 (k + 1) = tableRows l0 l1 k ++ lostRows (lst k) ++ [⟨mks.getD (k + 1) ByteArray.empty, l0.getD k ByteArray.empty⟩]) := ⟨fun k => by rw [tableRows, hmall, hlall]⟩
          have HZ1 : Aside0 (∀ l ∈ l1, ∀ s ∈ l, s.size ≤ 1000000000) := ⟨fun l hl s hs => (HF1.out l (by rw [← HFS.out]; simp [hl])).2 s hs⟩
          have HLR : Aside0 (∀ k, (lostRows (lst k)).length ≤ 2000) := ⟨fun k => lostRows_le HLOK.out H16.out.1 (by have := HSUM.out; omega) HZ1.out k⟩
          have HTL : Aside0 (∀ k, (tableRows l0 l1 k).length ≤ k * 2001) := ⟨fun k => by
            induction k with
            | zero => exact Nat.zero_le _
            | succ k ih =>
              rw [HTR.out, List.length_append, List.length_append, List.length_singleton]
              have := HLR.out k
              omega⟩
          have HEND : Aside0 (r1 = tableRows l0 l1 l0.length ++ lostRows (lst l0.length)) := ⟨by rw [← HR1e.out, tableAll, hlall]⟩
          have hTR0 : tableRows l0 l1 0 = [] := rfl
          rw [← hTR0] at HI
          have HPUT : Aside0 (∀ (W : World) (k cnt : Nat), k ≤ l0.length → Below w.heap.size w W → MakerIn w W w.heap.size g l1.length A1 c1 cnt mks lst (tableRows l0 l1 k) 0 → Calls Try.prog 46 #[.pointer (some ⟨g, 0, none⟩), .int .i64 (k : Int)] W fun e' w' => e' = .returned (.tuple #[]) ∧ Aside0 (MakerIn w w' w.heap.size g l1.length A1 c1 cnt mks lst (tableRows l0 l1 k ++ lostRows (lst k)) 0) ∧ Aside0 (Below w.heap.size W w')) := ⟨fun W k cnt hk hb hI =>
            put_calls w W w.heap.size g l1.length c1 cnt k A1 mks lst (tableRows l0 l1 k) rfl hb hI (by omega) hN (fun ls hl => (lost_gap HLOK.out H16.out.1 (by have := HSUM.out; omega) HZ1.out hl).1) (by have := HTL.out k; have := HLR.out k; have := HLE.out.1; have : k * 2001 ≤ 2000 * 2001 := Nat.mul_le_mul_right _ (by omega); omega)⟩
          clear hmks hlst hmall hlall hmok hlok hTR0 hCr hid0
          go_wp2_with fail
          go_loopw [12, 13, 55] (fun _ _ iv wr2 => ∃ (k : Nat), iv = .int .i64 k ∧ k ≤ l0.length ∧ Aside0 (MakerIn w wr2 w.heap.size g l1.length A1 c1 (l1.length * 2002) mks lst (tableRows l0 l1 k) 0) ∧ Aside0 (Below w.heap.size w wr2)) (fun _ _ iv _ => l0.length - (intOf iv).toNat)
          case atStart => exact ⟨0, rfl, Nat.zero_le _, HI, HBr⟩
          case round =>
            obtain ⟨k, rfl, hk, HI2, HB2⟩ := hrel
            by_cases hlt2 : k < l0.length
            · obtain ⟨ad0, rfl, xs⟩ := at_str HR0.out k hlt2
              replace xs := (HB2.out.cell (World.block_lt_of_cell? w _ xs)).trans xs
              obtain ⟨s, hs⟩ : ∃ s, l0.getD k ByteArray.empty = s := ⟨_, rfl⟩
              have HSE := Aside0.mk hs
              rw [hs] at xs
              clear hs
              go_wp2_with fail
              refine (HPUT.out _ k _ (by omega) HB2.out HI2.out).mono ?_
              rintro e' wp ⟨rfl, HIp, HBp⟩
              obtain ⟨vm3, gm3, vo3, z1, z2, z3, z4, z5⟩ := HIp.out
              obtain ⟨Ao, co, rfl⟩ := Kd.R_slice z4
              obtain ⟨gv2, cv2, rfl, pB2, _, pcs2, p2⟩ := Kd.R_form z3 (by rw [HMOK.out.1]; omega)
              have p3 := (Kd.R_celln ByteArray.empty z3 ((k + 1 : Nat) : Int) (by omega) (by rw [HMOK.out.1]; omega)).1
              rw [show (((k + 1 : Nat) : Int)).toNat = k + 1 by omega] at p3
              have p3 : wp.cell? ⟨gv2, k + 1, none⟩ = some (.string (mks.getD (k + 1) ByteArray.empty)) := p3
              have P2 := Aside0.mk p2
              obtain ⟨mk, hmk2⟩ : ∃ mk, mks.getD (k + 1) ByteArray.empty = mk := ⟨_, rfl⟩
              have hTRk := HTR.out k
              have hlen := HTL.out k
              have hlen2 := HLR.out k
              have hk2 : k * 2001 ≤ 2000 * 2001 := Nat.mul_le_mul_right _ (by have := HLE.out.1; omega)
              rw [hmk2, HSE.out] at hTRk
              obtain ⟨OUT, hOUT⟩ : ∃ O, tableRows l0 l1 k ++ lostRows (lst k) = O := ⟨_, rfl⟩
              have hOl : OUT.length ≤ 10000000 := by rw [← hOUT, List.length_append]; omega
              rw [hOUT] at hTRk z4
              rw [hOUT] at z1
              have HTRK := Aside0.mk hTRk
              obtain ⟨no, hno⟩ : ∃ n, OUT.length = n := ⟨_, rfl⟩
              rw [hno] at z1 z4 hOl
              have HNO := Aside0.mk hno
              have HOL := Aside0.mk hOl
              have hmo := HMOK.out.1
              have y3 : wp.cell? ⟨g, 3, none⟩ = some (.slice Ao no co) := cell_blk z1 rfl
              rw [hmo] at z1 z3
              have y1 : wp.cell? ⟨g, 1, none⟩ = some (.slice (some ⟨gv2, 0, none⟩) (l0.length + 1) cv2) := cell_blk z1 rfl
              have y2 : wp.cell? ⟨gv2, k + 1, none⟩ = some (.string mk) := by rw [← hmk2]; exact p3
              have Z1 := Aside0.mk z1
              have Z2 := Aside0.mk z2
              have Z3 := Aside0.mk z3
              have Z4 := Aside0.mk z4
              have Z5 := Aside0.mk z5
              have HBw : Aside0 (Below w.heap.size w wp) := ⟨HB2.out.trans HBp.out⟩
              have hki : (k : Int) + 1 < (l0.length : Int) + 1 := by omega
              have hk0 : (0 : Int) ≤ (k : Int) + 1 := by omega
              have e1 : wrap64 ((k : Int) + 1) = (k : Int) + 1 := gw (by omega) (by omega)
              clear p2 p3 z1 z2 z3 z4 z5 hmk2 hTRk hlen hlen2 hk2 hOUT hno hOl hmo HIp
              go_wp2
              refine start_ (n := 20) (S := fun w' => w'.cell? ⟨g, 3, none⟩ = some (.slice Ao no co) ∧ w'.cell? ⟨g, 1, none⟩ = some (.slice (some ⟨gv2, 0, none⟩) (l0.length + 1) cv2) ∧ w'.cell? ⟨gv2, k + 1, none⟩ = some (.string mk)) (ds := [19]) #[false, false, false, false, false, false, false, false, false, false, false, false, false, false, false, false, false, false, false, false] (by kernel_rfl) rfl rfl ⟨y3, y1, y2⟩ (fun hHeld => ?_)
              refine pure_ (i := 0) (N := some 63) (v := ?_) (a' := ?_) #[true, false, false, false, false, false, false, false, false, false, false, false, false, false, false, false, false, false, false, false] rfl rfl (by kernel_rfl) (fun _ _ _ h => h) (Or.inl ⟨by rfl, ?_⟩) ?_ ?_
              rotate_left
              · intro w'
                go_simp
                with_reducible rfl
              rotate_left
              · simp only [Act.put, List.setIfInBounds_toArray, List.set_cons_zero, List.set_cons_succ, i64_w, i32_w]
                rfl
              refine pure_ (i := 1) (N := some 64) (v := ?_) (a' := ?_) #[true, true, false, false, false, false, false, false, false, false, false, false, false, false, false, false, false, false, false, false] rfl rfl (by kernel_rfl) (fun _ _ _ h => h) (Or.inl ⟨by rfl, ?_⟩) ?_ ?_
              rotate_left
              · intro w'
                go_simp
                with_reducible rfl
              rotate_left
              · simp only [Act.put, List.setIfInBounds_toArray, List.set_cons_zero, List.set_cons_succ, i64_w, i32_w]
                rfl
              refine pure_ (i := 2) (N := some 65) (v := ?_) (a' := ?_) #[true, true, true, false, false, false, false, false, false, false, false, false, false, false, false, false, false, false, false, false] rfl rfl (by kernel_rfl) (fun _ _ _ h => h) (Or.inl ⟨by rfl, ?_⟩) ?_ ?_
              rotate_left
              · intro w'
                go_simp
                with_reducible rfl
              rotate_left
              · simp only [Act.put, List.setIfInBounds_toArray, List.set_cons_zero, List.set_cons_succ, i64_w, i32_w]
                rfl
              refine pure_ (i := 3) (N := some 66) (v := ?_) (a' := ?_) #[true, true, true, true, false, false, false, false, false, false, false, false, false, false, false, false, false, false, false, false] rfl rfl (by kernel_rfl) (fun _ _ _ h => h) (Or.inl ⟨by rfl, ?_⟩) ?_ ?_
              rotate_left
              · intro w'
                go_simp
                with_reducible rfl
              rotate_left
              · simp only [Act.put, List.setIfInBounds_toArray, List.set_cons_zero, List.set_cons_succ, i64_w, i32_w]
                rfl
              refine pure_ (i := 5) (N := some 68) (v := ?_) (a' := ?_) #[true, true, true, true, false, true, false, false, false, false, false, false, false, false, false, false, false, false, false, false] rfl rfl (by kernel_rfl) (fun _ _ _ h => h) (Or.inl ⟨by rfl, ?_⟩) ?_ ?_
              rotate_left
              · intro w'
                go_simp
                with_reducible rfl
              rotate_left
              · simp only [Act.put, List.setIfInBounds_toArray, List.set_cons_zero, List.set_cons_succ, i64_w, i32_w]
                rfl
              refine pure_ (i := 6) (N := some 69) (v := ?_) (a' := ?_) #[true, true, true, true, false, true, true, false, false, false, false, false, false, false, false, false, false, false, false, false] rfl rfl (by kernel_rfl) (fun _ _ _ h => h) (Or.inl ⟨by rfl, ?_⟩) ?_ ?_
              rotate_left
              · intro w'
                go_simp
                with_reducible rfl
              rotate_left
              · simp only [Act.put, List.setIfInBounds_toArray, List.set_cons_zero, List.set_cons_succ, i64_w, i32_w]
                rfl
              refine pure_ (i := 7) (N := some 70) (v := ?_) (a' := ?_) #[true, true, true, true, false, true, true, true, false, false, false, false, false, false, false, false, false, false, false, false] rfl rfl (by kernel_rfl) (fun _ _ _ h => h) (Or.inl ⟨by rfl, ?_⟩) ?_ ?_
              rotate_left
              · intro w'
                go_simp
                with_reducible rfl
              rotate_left
              · simp only [Act.put, List.setIfInBounds_toArray, List.set_cons_zero, List.set_cons_succ, i64_w, i32_w]
                rfl
              refine pure_ (i := 9) (N := some 72) (v := ?_) (a' := ?_) #[true, true, true, true, false, true, true, true, false, true, false, false, false, false, false, false, false, false, false, false] rfl rfl (by kernel_rfl) (fun _ _ _ h => h) (Or.inl ⟨by rfl, ?_⟩) ?_ ?_
              rotate_left
              · intro w'
                go_simp
                with_reducible rfl
              rotate_left
              · simp only [Act.put, List.setIfInBounds_toArray, List.set_cons_zero, List.set_cons_succ, i64_w, i32_w]
                rfl
              refine pure_ (i := 10) (N := some 73) (v := ?_) (a' := ?_) #[true, true, true, true, false, true, true, true, false, true, true, false, false, false, false, false, false, false, false, false] rfl rfl (by kernel_rfl) (fun _ _ _ h => h) (Or.inl ⟨by rfl, ?_⟩) ?_ ?_
              rotate_left
              · intro w'
                go_simp
                with_reducible rfl
              rotate_left
              · simp only [Act.put, List.setIfInBounds_toArray, List.set_cons_zero, List.set_cons_succ, i64_w, i32_w]
                rfl
              refine pure_ (i := 13) (N := some 76) (v := ?_) (a' := ?_) #[true, true, true, true, false, true, true, true, false, true, true, false, false, true, false, false, false, false, false, false] rfl rfl (by kernel_rfl) (fun _ _ _ h => h) (Or.inl ⟨by rfl, ?_⟩) ?_ ?_
              rotate_left
              · intro w'
                go_simp
                with_reducible rfl
              rotate_left
              · simp only [Act.put, List.setIfInBounds_toArray, List.set_cons_zero, List.set_cons_succ, i64_w, i32_w]
                rfl
              refine take_ (i := 4) (N := some 67) (v := ?_) (a' := ?_) #[true, true, true, true, true, true, true, true, false, true, true, false, false, true, false, false, false, false, false, false] rfl rfl (by kernel_rfl) (fun _ _ _ h => h) (Or.inl ⟨by rfl, ?_⟩) hHeld ?_ ?_
              rotate_left
              · rintro w' ⟨s0, s1, s2⟩
                go_simp
                with_reducible rfl
              rotate_left
              · simp only [Act.put, List.setIfInBounds_toArray, List.set_cons_zero, List.set_cons_succ, i64_w, i32_w]
                rfl
              refine take_ (i := 8) (N := some 71) (v := ?_) (a' := ?_) #[true, true, true, true, true, true, true, true, true, true, true, false, false, true, false, false, false, false, false, false] rfl rfl (by kernel_rfl) (fun _ _ _ h => h) (Or.inl ⟨by rfl, ?_⟩) hHeld ?_ ?_
              rotate_left
              · rintro w' ⟨s0, s1, s2⟩
                go_simp
                with_reducible rfl
              rotate_left
              · simp only [Act.put, List.setIfInBounds_toArray, List.set_cons_zero, List.set_cons_succ, i64_w, i32_w]
                rfl
              refine pure_ (i := 11) (N := some 74) (v := ?_) (a' := ?_) #[true, true, true, true, true, true, true, true, true, true, true, true, false, true, false, false, false, false, false, false] rfl rfl (by kernel_rfl) (fun _ _ _ h => h) (Or.inl ⟨by rfl, ?_⟩) ?_ ?_
              rotate_left
              · intro w'
                go_simp
                with_reducible rfl
              rotate_left
              · simp only [Act.put, List.setIfInBounds_toArray, List.set_cons_zero, List.set_cons_succ, i64_w, i32_w]
                rfl
              refine take_ (i := 12) (N := some 75) (v := ?_) (a' := ?_) #[true, true, true, true, true, true, true, true, true, true, true, true, true, true, false, false, false, false, false, false] rfl rfl (by kernel_rfl) (fun _ _ _ h => h) (Or.inl ⟨by rfl, ?_⟩) hHeld ?_ ?_
              rotate_left
              · rintro w' ⟨s0, s1, s2⟩
                go_simp
                with_reducible rfl
              rotate_left
              · simp only [Act.put, List.setIfInBounds_toArray, List.set_cons_zero, List.set_cons_succ, i64_w, i32_w]
                rfl
              refine pure_ (i := 14) (N := some 77) (v := ?_) (a' := ?_) #[true, true, true, true, true, true, true, true, true, true, true, true, true, true, true, false, false, false, false, false] rfl rfl (by kernel_rfl) (fun _ _ _ h => h) (Or.inl ⟨by rfl, ?_⟩) ?_ ?_
              rotate_left
              · intro w'
                go_simp
                with_reducible rfl
              rotate_left
              · simp only [Act.put, List.setIfInBounds_toArray, List.set_cons_zero, List.set_cons_succ, i64_w, i32_w]
                rfl
              refine one_ (i := 15) (N := some 78) #[true, true, true, true, true, true, true, true, true, true, true, true, true, true, true, true, false, false, false, false] rfl rfl (by kernel_rfl) (by decide) (fun K hK => ?_)
              refine value_ (w1 := ?_) (v := ?_) (by rfl) rfl ?_ ?_
              rotate_left 2
              · go_simp
                constructor
                · rfl
                · rfl
              refine hK.out _ _ ⟨cell_alloc_of y3 _, cell_alloc_of y1 _, cell_alloc_of y2 _⟩ (fun hHeld => ?_)
              clear hK K
              refine norm_ (a' := ?_) ?_ ?_
              rotate_left
              · show Act.put _ (some 78) _ = _
                simp only [Act.put, List.setIfInBounds_toArray, List.set_cons_zero, List.set_cons_succ, i64_w, i32_w]
                rfl
              refine one_ (i := 16) (N := some 79) #[true, true, true, true, true, true, true, true, true, true, true, true, true, true, true, true, true, false, false, false] rfl rfl (by kernel_rfl) (by decide) (fun K hK => ?_)
              have hw_ : (wp.alloc (.cells #[.string mk, .string s] 37)).drew = wp.drew.alloc (.cells ([.string mk, .string s] : List Value).toArray 37) := rfl
              rw [hw_]
              clear hw_
              refine Kd.R_append_step k37 (w0 := w) w.heap.size (by rfl) (.tmp 67) (.tmp 78) 25 37 (.agg #[(.string ⟨#[]⟩), (.string ⟨#[]⟩)]) 32 rfl Try.underlying25 info37 rfl (by decide) (by omega) (.slice Ao no co) OUT (⟨mk, s⟩ : S37) [.string mk, .string s] (fun _ => True) (fun _ => False) rfl rfl ?aP (fun _ hk => hk.elim) ?aF ?aO ?aB ?aS ?aL ?_
              (case aP => exact k37_mkM _ _ _ (⟨mk, s⟩ : S37))
              (case aF => exact (fun _ _ => trivial))
              (case aO => exact (by (with_reducible repeat (first | apply Kd.R_alloc | apply Kd.R_drewN | apply Kd.R_drew)); exact Z4.out))
              (case aB => exact (by repeat (first | (with_reducible first | exact HBw.out | apply below_alloc | apply pw_below_drewN | apply below_drew1) | exact HBw.out)))
              (case aS => exact (below_size (by repeat (first | (with_reducible first | exact HBw.out | apply below_alloc | apply pw_below_drewN | apply below_drew1) | exact HBw.out))))
              (case aL => have := HOL.out; have := HNO.out; omega)
              intro v9 w9 ho9 hb9 hg9 hat9
              obtain ⟨A9, c9, hv9⟩ := Kd.R_slice ho9
              subst hv9
              have hl9 : (OUT ++ [(⟨mk, s⟩ : S37)]).length = no + 1 := (by simp [HNO.out])
              rw [hl9] at ho9 ⊢
              have HO9 := Aside0.mk ho9
              have HB9 := Aside0.mk hb9
              have HG9 := Aside0.mk hg9
              have hgne := Kd.R_ne Z4.out Z1.out (by decide)
              have z19 : w9.heap[g]? = some (.cells #[.slice A1 l1.length c1, .slice (some ⟨gv2, 0, none⟩) (l0.length + 1) cv2, .map (some gm3), .slice Ao no co, .int .i64 0] 78 (0, 0)) := (hg9.block _ (blk_lt Z1.out) hgne).trans Z1.out
              have Z19 := Aside0.mk z19
              have x3 : w9.cell? ⟨g, 3, none⟩ = some (.slice Ao no co) := cell_blk z19 rfl
              have x1 : w9.cell? ⟨g, 1, none⟩ = some (.slice (some ⟨gv2, 0, none⟩) (l0.length + 1) cv2) := cell_blk z19 rfl
              have p29 := (hg9.block _ (blk_lt P2.out) (Kd.R_ne Z4.out P2.out (by decide))).trans P2.out
              have x2 : w9.cell? ⟨gv2, k + 1, none⟩ = some (.string mk) := (by rw [← y2]; simp only [World.cell?, p29, P2.out])
              have f3 : w9.frozen? ⟨g, 3, none⟩ = false := frozen_of_row _ _ _ _ _ z19
              clear ho9 hb9 hg9 hat9 z19 p29
              refine hK.out _ _ ⟨x3, x1, x2⟩ (fun hHeld => ?_)
              clear hK K
              refine norm_ (a' := ?_) ?_ ?_
              rotate_left
              · show Act.put _ (some 79) _ = _
                simp only [Act.put, List.setIfInBounds_toArray, List.set_cons_zero, List.set_cons_succ, i64_w, i32_w]
                rfl
              refine pure_ (i := 17) (N := some 80) (v := ?_) (a' := ?_) #[true, true, true, true, true, true, true, true, true, true, true, true, true, true, true, true, true, true, false, false] rfl rfl (by kernel_rfl) (fun _ _ _ h => h) (Or.inl ⟨by rfl, ?_⟩) ?_ ?_
              rotate_left
              · intro w'
                go_simp
                with_reducible rfl
              rotate_left
              · simp only [Act.put, List.setIfInBounds_toArray, List.set_cons_zero, List.set_cons_succ, i64_w, i32_w]
                rfl
              refine pure_ (i := 18) (N := some 81) (v := ?_) (a' := ?_) #[true, true, true, true, true, true, true, true, true, true, true, true, true, true, true, true, true, true, true, false] rfl rfl (by kernel_rfl) (fun _ _ _ h => h) (Or.inl ⟨by rfl, ?_⟩) ?_ ?_
              rotate_left
              · intro w'
                go_simp
                with_reducible rfl
              rotate_left
              · simp only [Act.put, List.setIfInBounds_toArray, List.set_cons_zero, List.set_cons_succ, i64_w, i32_w]
                rfl
              refine last_ (i := 19) (N := none) #[true, true, true, true, true, true, true, true, true, true, true, true, true, true, true, true, true, true, true, true] rfl rfl (by kernel_rfl) (by decide) (fun K hK => ?_)
              refine skip_ (w1 := ?_) (by rfl) rfl ?_ ?_
              rotate_left
              · go_simp
                rfl
              refine hK.out _ _ ?_
              clear hK K
              refine done_ (by kernel_rfl) ?_

              clear e1 hki hk0
              go_wp2
              go_roundw
              case measure => simp [intOf]; omega
              case rel =>
                have hgd := HG9.out
                have hne : ∀ (j : Nat) (cells : Array Value) (q : TypeId) (fr : Nat × Nat), wp.heap[j]? = some (.cells cells q fr) → q ≠ 37 → w9.heap[j]? = wp.heap[j]? := fun j cells q fr hj hq => HG9.out.block j (Array.getElem?_eq_some_iff.1 hj).1 (fun e => by
                  obtain ⟨cs, hcs⟩ := Kd.R_typed Z4.out j e.symm
                  rw [hcs] at hj; injection hj with hj; injection hj with _ hj; exact hq hj.symm)
                have h3' : Kd.R Kd.string 9 w9 w.heap.size (fun _ => True) (.slice (some ⟨gv2, 0, none⟩) (l0.length + 1) cv2) mks := Kd.R_map Z3.out (fun j cells q fr hj hq => hne j cells q fr hj (by
                  have : q = 9 := by simpa [Kd.string, Kd.scalar] using hq
                  rw [this]; decide))
                have h5' : LostIn w w9 w.heap.size gm3 l1.length (l1.length * 2002) lst := Z5.out.step fun j hj hq => HG9.out.block j hj (fun e => by
                  obtain ⟨cs, hcs⟩ := Kd.R_typed Z4.out j e.symm
                  have := hq _ _ _ hcs
                  exact absurd this (by decide))
                refine ⟨k + 1, by go_num, by omega, ⟨⟨.slice (some ⟨gv2, 0, none⟩) (l0.length + 1) cv2, gm3, .slice A9 (no + 1) c9, ?_, Z2.out, Kd.R_set h3' Z19.out (by decide) _ _, ?_, h5'.set Z19.out (by decide) _⟩⟩, ⟨HB9.out.setCell (p := ⟨g, 3, none⟩) Z2.out _⟩⟩
                · rw [heap_set_same Z19.out]
                  simp
                · rw [HTRK.out]
                  exact Kd.R_set HO9.out Z19.out (by decide) _ _
            · have hk' : k = l0.length := by omega
              subst hk'
              go_wp2_with fail
              refine (HPUT.out _ l0.length _ (Nat.le_refl _) HB2.out HI2.out).mono ?_
              rintro e' wp ⟨rfl, HIp, HBp⟩
              rw [← HEND.out] at HIp
              obtain ⟨vm3, gm3, vo3, z1, z2, z3, z4, z5⟩ := HIp.out
              have c4 : wp.cell? ⟨g, 4, none⟩ = some (.int .i64 0) := cell_blk z1 rfl
              have c3 : wp.cell? ⟨g, 3, none⟩ = some vo3 := cell_blk z1 rfl
              have Z4 := Aside0.mk z4
              clear z1 z2 z3 z4 z5
              go_wp2
              go_ret2
              exact ⟨_, rfl, Z4.out, HB2.out.trans HBp.out⟩
    · rw [if_pos hc] at hT
      obtain ⟨e1, e2⟩ := Prod.mk.inj hT
      subst e1
      subst e2
      have b1 : (cde == 0) = false := by simpa using hc
      have b2 : decide (cde = 0) = false := decide_eq_false hc
      go_wp2
      go_ret2
      exact ⟨_, rfl, Kd.R_nil _ _ _ _ _, HB3.out⟩
  · cases h
end Go.Proofs.Ytnlekganlliikaa.X
-- part XKn1
namespace Go.Proofs.Ytnlekganlliikaa.X
open Go.RowKit Go.Proofs.YtnlekganlliikaaW.PrintWords Go.Proofs.YtnlekganlliikaaW.PrintLast Go.Proofs.YtnlekganlliikaaW.PrintMore
attribute [local go_sem] max2_int min2_int max_two min_two max_three min_three max_four min_four   -- for this text's walks alone
set_option linter.unusedVariables false
set_option linter.unusedSimpArgs false
attribute [local go_sem high] eqA37
def sennitlaw20_awake.f  : Option (Bool) := (table_Table.f (([(⟨#[97, 10]⟩ : ByteArray), (⟨#[99, 10]⟩ : ByteArray)] : List ByteArray)) (([(([(⟨#[97, 10]⟩ : ByteArray), (⟨#[98, 10]⟩ : ByteArray)] : List ByteArray)), (([(⟨#[97, 10]⟩ : ByteArray), (⟨#[99, 10]⟩ : ByteArray)] : List ByteArray))] : List (List ByteArray)))).bind fun bt113 => ((table_Table.f ([] : List ByteArray) ([] : List (List ByteArray))).bind fun bt117 => ((table_Column.f bt113.1 0).bind fun t121 => (if bt113.2 = 0 then (if bt117.2 = 1 then (if (bt113.1.length : Int) = 3 then (if 0 < (bt113.1.length : Int) then (if ((rd_T37 bt113.1 0).f0).toList = ([32, 32] : List UInt8) then (if 1 < (bt113.1.length : Int) then (if ((((rd_T37 bt113.1 1).f0).toList) == ([45, 32] : List UInt8) && ((((rd_T37 bt113.1 1).f1).toList) == ([98, 10] : List UInt8))) = true then (if 2 < (bt113.1.length : Int) then (if ((rd_T37 bt113.1 2).f0).toList = ([43, 32] : List UInt8) then ((table_Lost.f ((rd_T37 bt113.1 1).f0) ((rd_T37 bt113.1 1).f1)).bind fun t128 => (if t128 = true then ((table_Lost.f ((rd_T37 bt113.1 2).f0) ((rd_T37 bt113.1 2).f1)).bind fun t130 => (if t130 = true then (some false) else (if (t121.length : Int) = 2 then ((table_Result.f bt113.1).bind fun t131 => (some ((t131.length : Int) == 2))) else (some false)))) else (some false))) else (some false)) else (none)) else (some false)) else (none)) else (some false)) else (none)) else (some false)) else (some false)) else (some false))))
theorem sennitlaw20_awake.true_ : sennitlaw20_awake.f = some true := by decide +kernel
set_option maxHeartbeats 8000000 in
set_option maxRecDepth 100000 in
theorem sennitlaw20_awake.calls  (r : Bool) (w : World) (h : sennitlaw20_awake.f  = some r) :
    Calls Try.prog 23 #[] w fun e w' => e = .returned (.bool r) ∧ Below w.heap.size w w' := by
  have hrt_ : r = true := Option.some.inj (h.symm.trans sennitlaw20_awake.true_)
  have hu37 := Try.underlying37
  have HB := Aside0.mk (Below.refl w.heap.size w)
  have H : ((table_Table.f (([(⟨#[97, 10]⟩ : ByteArray), (⟨#[99, 10]⟩ : ByteArray)] : List ByteArray)) (([(([(⟨#[97, 10]⟩ : ByteArray), (⟨#[98, 10]⟩ : ByteArray)] : List ByteArray)), (([(⟨#[97, 10]⟩ : ByteArray), (⟨#[99, 10]⟩ : ByteArray)] : List ByteArray))] : List (List ByteArray)))).bind fun bt113 => ((table_Table.f ([] : List ByteArray) ([] : List (List ByteArray))).bind fun bt117 => ((table_Column.f bt113.1 0).bind fun t121 => (if bt113.2 = 0 then (if bt117.2 = 1 then (if (bt113.1.length : Int) = 3 then (if 0 < (bt113.1.length : Int) then (if ((rd_T37 bt113.1 0).f0).toList = ([32, 32] : List UInt8) then (if 1 < (bt113.1.length : Int) then (if ((((rd_T37 bt113.1 1).f0).toList) == ([45, 32] : List UInt8) && ((((rd_T37 bt113.1 1).f1).toList) == ([98, 10] : List UInt8))) = true then (if 2 < (bt113.1.length : Int) then (if ((rd_T37 bt113.1 2).f0).toList = ([43, 32] : List UInt8) then ((table_Lost.f ((rd_T37 bt113.1 1).f0) ((rd_T37 bt113.1 1).f1)).bind fun t128 => (if t128 = true then ((table_Lost.f ((rd_T37 bt113.1 2).f0) ((rd_T37 bt113.1 2).f1)).bind fun t130 => (if t130 = true then (some false) else (if (t121.length : Int) = 2 then ((table_Result.f bt113.1).bind fun t131 => (some ((t131.length : Int) == 2))) else (some false)))) else (some false))) else (some false)) else (none)) else (some false)) else (none)) else (some false)) else (none)) else (some false)) else (some false)) else (some false))))) = some r := h
  clear h
  obtain ⟨y101, hy101⟩ : ∃ y_ : List ByteArray, y_ = (([(⟨#[97, 10]⟩ : ByteArray), (⟨#[99, 10]⟩ : ByteArray)] : List ByteArray)) := ⟨_, rfl⟩
  replace H : ((table_Table.f y101 (([(([(⟨#[97, 10]⟩ : ByteArray), (⟨#[98, 10]⟩ : ByteArray)] : List ByteArray)), (([(⟨#[97, 10]⟩ : ByteArray), (⟨#[99, 10]⟩ : ByteArray)] : List ByteArray))] : List (List ByteArray)))).bind fun bt113 => ((table_Table.f ([] : List ByteArray) ([] : List (List ByteArray))).bind fun bt117 => ((table_Column.f bt113.1 0).bind fun t121 => (if bt113.2 = 0 then (if bt117.2 = 1 then (if (bt113.1.length : Int) = 3 then (if 0 < (bt113.1.length : Int) then (if ((rd_T37 bt113.1 0).f0).toList = ([32, 32] : List UInt8) then (if 1 < (bt113.1.length : Int) then (if ((((rd_T37 bt113.1 1).f0).toList) == ([45, 32] : List UInt8) && ((((rd_T37 bt113.1 1).f1).toList) == ([98, 10] : List UInt8))) = true then (if 2 < (bt113.1.length : Int) then (if ((rd_T37 bt113.1 2).f0).toList = ([43, 32] : List UInt8) then ((table_Lost.f ((rd_T37 bt113.1 1).f0) ((rd_T37 bt113.1 1).f1)).bind fun t128 => (if t128 = true then ((table_Lost.f ((rd_T37 bt113.1 2).f0) ((rd_T37 bt113.1 2).f1)).bind fun t130 => (if t130 = true then (some false) else (if (t121.length : Int) = 2 then ((table_Result.f bt113.1).bind fun t131 => (some ((t131.length : Int) == 2))) else (some false)))) else (some false))) else (some false)) else (none)) else (some false)) else (none)) else (some false)) else (none)) else (some false)) else (some false)) else (some false))))) = some r := by first | (rw [hy101]; with_reducible exact H) | (have H2_ := (Option.bind_some _ _).symm.trans H; rw [hy101]; with_reducible exact H2_) | (have H2_ := (Option.bind_some _ _).symm.trans H; with_reducible exact H2_) | with_reducible exact H | (rw [hy101]; exact H) | exact H
  have Ny101 := Aside0.mk hy101
  clear hy101
  obtain ⟨y104, hy104⟩ : ∃ y_ : List ByteArray, y_ = (([(⟨#[97, 10]⟩ : ByteArray), (⟨#[98, 10]⟩ : ByteArray)] : List ByteArray)) := ⟨_, rfl⟩
  replace H : ((table_Table.f y101 (([y104, (([(⟨#[97, 10]⟩ : ByteArray), (⟨#[99, 10]⟩ : ByteArray)] : List ByteArray))] : List (List ByteArray)))).bind fun bt113 => ((table_Table.f ([] : List ByteArray) ([] : List (List ByteArray))).bind fun bt117 => ((table_Column.f bt113.1 0).bind fun t121 => (if bt113.2 = 0 then (if bt117.2 = 1 then (if (bt113.1.length : Int) = 3 then (if 0 < (bt113.1.length : Int) then (if ((rd_T37 bt113.1 0).f0).toList = ([32, 32] : List UInt8) then (if 1 < (bt113.1.length : Int) then (if ((((rd_T37 bt113.1 1).f0).toList) == ([45, 32] : List UInt8) && ((((rd_T37 bt113.1 1).f1).toList) == ([98, 10] : List UInt8))) = true then (if 2 < (bt113.1.length : Int) then (if ((rd_T37 bt113.1 2).f0).toList = ([43, 32] : List UInt8) then ((table_Lost.f ((rd_T37 bt113.1 1).f0) ((rd_T37 bt113.1 1).f1)).bind fun t128 => (if t128 = true then ((table_Lost.f ((rd_T37 bt113.1 2).f0) ((rd_T37 bt113.1 2).f1)).bind fun t130 => (if t130 = true then (some false) else (if (t121.length : Int) = 2 then ((table_Result.f bt113.1).bind fun t131 => (some ((t131.length : Int) == 2))) else (some false)))) else (some false))) else (some false)) else (none)) else (some false)) else (none)) else (some false)) else (none)) else (some false)) else (some false)) else (some false))))) = some r := by first | (rw [hy104]; with_reducible exact H) | (have H2_ := (Option.bind_some _ _).symm.trans H; rw [hy104]; with_reducible exact H2_) | (have H2_ := (Option.bind_some _ _).symm.trans H; with_reducible exact H2_) | with_reducible exact H | (rw [hy104]; exact H) | exact H
  have Ny104 := Aside0.mk hy104
  clear hy104
  obtain ⟨y107, hy107⟩ : ∃ y_ : List ByteArray, y_ = (([(⟨#[97, 10]⟩ : ByteArray), (⟨#[99, 10]⟩ : ByteArray)] : List ByteArray)) := ⟨_, rfl⟩
  replace H : ((table_Table.f y101 (([y104, y107] : List (List ByteArray)))).bind fun bt113 => ((table_Table.f ([] : List ByteArray) ([] : List (List ByteArray))).bind fun bt117 => ((table_Column.f bt113.1 0).bind fun t121 => (if bt113.2 = 0 then (if bt117.2 = 1 then (if (bt113.1.length : Int) = 3 then (if 0 < (bt113.1.length : Int) then (if ((rd_T37 bt113.1 0).f0).toList = ([32, 32] : List UInt8) then (if 1 < (bt113.1.length : Int) then (if ((((rd_T37 bt113.1 1).f0).toList) == ([45, 32] : List UInt8) && ((((rd_T37 bt113.1 1).f1).toList) == ([98, 10] : List UInt8))) = true then (if 2 < (bt113.1.length : Int) then (if ((rd_T37 bt113.1 2).f0).toList = ([43, 32] : List UInt8) then ((table_Lost.f ((rd_T37 bt113.1 1).f0) ((rd_T37 bt113.1 1).f1)).bind fun t128 => (if t128 = true then ((table_Lost.f ((rd_T37 bt113.1 2).f0) ((rd_T37 bt113.1 2).f1)).bind fun t130 => (if t130 = true then (some false) else (if (t121.length : Int) = 2 then ((table_Result.f bt113.1).bind fun t131 => (some ((t131.length : Int) == 2))) else (some false)))) else (some false))) else (some false)) else (none)) else (some false)) else (none)) else (some false)) else (none)) else (some false)) else (some false)) else (some false))))) = some r := by first | (rw [hy107]; with_reducible exact H) | (have H2_ := (Option.bind_some _ _).symm.trans H; rw [hy107]; with_reducible exact H2_) | (have H2_ := (Option.bind_some _ _).symm.trans H; with_reducible exact H2_) | with_reducible exact H | (rw [hy107]; exact H) | exact H
  have Ny107 := Aside0.mk hy107
  clear hy107
  obtain ⟨y110, hy110⟩ : ∃ y_ : List (List ByteArray), y_ = (([y104, y107] : List (List ByteArray))) := ⟨_, rfl⟩
  replace H : ((table_Table.f y101 y110).bind fun bt113 => ((table_Table.f ([] : List ByteArray) ([] : List (List ByteArray))).bind fun bt117 => ((table_Column.f bt113.1 0).bind fun t121 => (if bt113.2 = 0 then (if bt117.2 = 1 then (if (bt113.1.length : Int) = 3 then (if 0 < (bt113.1.length : Int) then (if ((rd_T37 bt113.1 0).f0).toList = ([32, 32] : List UInt8) then (if 1 < (bt113.1.length : Int) then (if ((((rd_T37 bt113.1 1).f0).toList) == ([45, 32] : List UInt8) && ((((rd_T37 bt113.1 1).f1).toList) == ([98, 10] : List UInt8))) = true then (if 2 < (bt113.1.length : Int) then (if ((rd_T37 bt113.1 2).f0).toList = ([43, 32] : List UInt8) then ((table_Lost.f ((rd_T37 bt113.1 1).f0) ((rd_T37 bt113.1 1).f1)).bind fun t128 => (if t128 = true then ((table_Lost.f ((rd_T37 bt113.1 2).f0) ((rd_T37 bt113.1 2).f1)).bind fun t130 => (if t130 = true then (some false) else (if (t121.length : Int) = 2 then ((table_Result.f bt113.1).bind fun t131 => (some ((t131.length : Int) == 2))) else (some false)))) else (some false))) else (some false)) else (none)) else (some false)) else (none)) else (some false)) else (none)) else (some false)) else (some false)) else (some false))))) = some r := by first | (rw [hy110]; with_reducible exact H) | (have H2_ := (Option.bind_some _ _).symm.trans H; rw [hy110]; with_reducible exact H2_) | (have H2_ := (Option.bind_some _ _).symm.trans H; with_reducible exact H2_) | with_reducible exact H | (rw [hy110]; exact H) | exact H
  have Ny110 := Aside0.mk hy110
  clear hy110
  replace H := Option.bind_eq_some_iff.mp H
  obtain ⟨⟨t113, t114⟩, A10, H⟩ := H
  replace H : ((table_Table.f ([] : List ByteArray) ([] : List (List ByteArray))).bind fun bt117 => ((table_Column.f t113 0).bind fun t121 => (if t114 = 0 then (if bt117.2 = 1 then (if (t113.length : Int) = 3 then (if 0 < (t113.length : Int) then (if ((rd_T37 t113 0).f0).toList = ([32, 32] : List UInt8) then (if 1 < (t113.length : Int) then (if ((((rd_T37 t113 1).f0).toList) == ([45, 32] : List UInt8) && ((((rd_T37 t113 1).f1).toList) == ([98, 10] : List UInt8))) = true then (if 2 < (t113.length : Int) then (if ((rd_T37 t113 2).f0).toList = ([43, 32] : List UInt8) then ((table_Lost.f ((rd_T37 t113 1).f0) ((rd_T37 t113 1).f1)).bind fun t128 => (if t128 = true then ((table_Lost.f ((rd_T37 t113 2).f0) ((rd_T37 t113 2).f1)).bind fun t130 => (if t130 = true then (some false) else (if (t121.length : Int) = 2 then ((table_Result.f t113).bind fun t131 => (some ((t131.length : Int) == 2))) else (some false)))) else (some false))) else (some false)) else (none)) else (some false)) else (none)) else (some false)) else (none)) else (some false)) else (some false)) else (some false)))) = some r := H
  have A1 := Aside0.mk A10
  clear A10
  replace H := Option.bind_eq_some_iff.mp H
  obtain ⟨⟨t117, t118⟩, A20, H⟩ := H
  replace H : ((table_Column.f t113 0).bind fun t121 => (if t114 = 0 then (if t118 = 1 then (if (t113.length : Int) = 3 then (if 0 < (t113.length : Int) then (if ((rd_T37 t113 0).f0).toList = ([32, 32] : List UInt8) then (if 1 < (t113.length : Int) then (if ((((rd_T37 t113 1).f0).toList) == ([45, 32] : List UInt8) && ((((rd_T37 t113 1).f1).toList) == ([98, 10] : List UInt8))) = true then (if 2 < (t113.length : Int) then (if ((rd_T37 t113 2).f0).toList = ([43, 32] : List UInt8) then ((table_Lost.f ((rd_T37 t113 1).f0) ((rd_T37 t113 1).f1)).bind fun t128 => (if t128 = true then ((table_Lost.f ((rd_T37 t113 2).f0) ((rd_T37 t113 2).f1)).bind fun t130 => (if t130 = true then (some false) else (if (t121.length : Int) = 2 then ((table_Result.f t113).bind fun t131 => (some ((t131.length : Int) == 2))) else (some false)))) else (some false))) else (some false)) else (none)) else (some false)) else (none)) else (some false)) else (none)) else (some false)) else (some false)) else (some false))) = some r := H
  have A2 := Aside0.mk A20
  clear A20
  replace H := Option.bind_eq_some_iff.mp H
  obtain ⟨t121, A30, H⟩ := H
  replace H : (if t114 = 0 then (if t118 = 1 then (if (t113.length : Int) = 3 then (if 0 < (t113.length : Int) then (if ((rd_T37 t113 0).f0).toList = ([32, 32] : List UInt8) then (if 1 < (t113.length : Int) then (if ((((rd_T37 t113 1).f0).toList) == ([45, 32] : List UInt8) && ((((rd_T37 t113 1).f1).toList) == ([98, 10] : List UInt8))) = true then (if 2 < (t113.length : Int) then (if ((rd_T37 t113 2).f0).toList = ([43, 32] : List UInt8) then ((table_Lost.f ((rd_T37 t113 1).f0) ((rd_T37 t113 1).f1)).bind fun t128 => (if t128 = true then ((table_Lost.f ((rd_T37 t113 2).f0) ((rd_T37 t113 2).f1)).bind fun t130 => (if t130 = true then (some false) else (if (t121.length : Int) = 2 then ((table_Result.f t113).bind fun t131 => (some ((t131.length : Int) == 2))) else (some false)))) else (some false))) else (some false)) else (none)) else (some false)) else (none)) else (some false)) else (none)) else (some false)) else (some false)) else (some false)) = some r := H
  have A3 := Aside0.mk A30
  clear A30
  by_cases c4 : t114 = 0
  · rw [if_pos c4] at H
    have c4b0 : (t114 == 0) = true := beq_iff_eq.mpr c4
    have c4b1 : (t114 != 0) = false := bne_eq_false_iff_eq.mpr c4
    clear c4
    by_cases c5 : t118 = 1
    · rw [if_pos c5] at H
      have c5b0 : (t118 == 1) = true := beq_iff_eq.mpr c5
      have c5b1 : (t118 != 1) = false := bne_eq_false_iff_eq.mpr c5
      clear c5
      by_cases c6 : (t113.length : Int) = 3
      · rw [if_pos c6] at H
        have c6b0 : ((t113.length : Int) == 3) = true := beq_iff_eq.mpr c6
        have c6b1 : ((t113.length : Int) != 3) = false := bne_eq_false_iff_eq.mpr c6
        clear c6
        by_cases c7 : 0 < (t113.length : Int)
        · rw [if_pos c7] at H
          have c7b0 : decide (0 < (t113.length : Int)) = true := decide_eq_true c7
          have c7b1 : decide (0 < t113.length) = true := decide_eq_true (by omega)
          clear c7
          by_cases c8 : ((rd_T37 t113 0).f0).toList = ([32, 32] : List UInt8)
          · rw [if_pos c8] at H
            have c8b0 : (((rd_T37 t113 0).f0).toList == ([32, 32] : List UInt8)) = true := beq_iff_eq.mpr c8
            have c8b1 : (((rd_T37 t113 0).f0).toList != ([32, 32] : List UInt8)) = false := bne_eq_false_iff_eq.mpr c8
            clear c8
            by_cases c9 : 1 < (t113.length : Int)
            · rw [if_pos c9] at H
              have c9b0 : decide (1 < (t113.length : Int)) = true := decide_eq_true c9
              have c9b1 : decide (1 < t113.length) = true := decide_eq_true (by omega)
              clear c9
              by_cases c10 : ((((rd_T37 t113 1).f0).toList) == ([45, 32] : List UInt8) && ((((rd_T37 t113 1).f1).toList) == ([98, 10] : List UInt8))) = true
              · rw [if_pos c10] at H
                have c10b0 : ((((rd_T37 t113 1).f0).toList) == ([45, 32] : List UInt8) && ((((rd_T37 t113 1).f1).toList) == ([98, 10] : List UInt8))) = true := c10
                (try (have c10b1 : decide ((((rd_T37 t113 1).f0).toList) = ([45, 32] : List UInt8) && ((((rd_T37 t113 1).f1).toList) == ([98, 10] : List UInt8))) = true := by simpa using c10))
                (try (have c10b2 : ((((rd_T37 t113 1).f0).toList) == ([45, 32] : List UInt8) && ((((rd_T37 t113 1).f1).toList) == ([98, 10] : List UInt8))) = true := by simpa using c10))
                clear c10
                by_cases c11 : 2 < (t113.length : Int)
                · rw [if_pos c11] at H
                  have c11b0 : decide (2 < (t113.length : Int)) = true := decide_eq_true c11
                  have c11b1 : decide (2 < t113.length) = true := decide_eq_true (by omega)
                  clear c11
                  by_cases c12 : ((rd_T37 t113 2).f0).toList = ([43, 32] : List UInt8)
                  · rw [if_pos c12] at H
                    have c12b0 : (((rd_T37 t113 2).f0).toList == ([43, 32] : List UInt8)) = true := beq_iff_eq.mpr c12
                    have c12b1 : (((rd_T37 t113 2).f0).toList != ([43, 32] : List UInt8)) = false := bne_eq_false_iff_eq.mpr c12
                    clear c12
                    replace H := Option.bind_eq_some_iff.mp H
                    obtain ⟨t128, A130, H⟩ := H
                    replace H : (if t128 = true then ((table_Lost.f ((rd_T37 t113 2).f0) ((rd_T37 t113 2).f1)).bind fun t130 => (if t130 = true then (some false) else (if (t121.length : Int) = 2 then ((table_Result.f t113).bind fun t131 => (some ((t131.length : Int) == 2))) else (some false)))) else (some false)) = some r := H
                    have A13 := Aside0.mk A130
                    clear A130
                    by_cases c14 : t128 = true
                    · subst c14
                      have H1 : ((table_Lost.f ((rd_T37 t113 2).f0) ((rd_T37 t113 2).f1)).bind fun t130 => (if t130 = true then (some false) else (if (t121.length : Int) = 2 then ((table_Result.f t113).bind fun t131 => (some ((t131.length : Int) == 2))) else (some false)))) = some r := by rw [if_pos rfl] at H; exact H
                      clear H
                      have H := H1
                      clear H1
                      replace H := Option.bind_eq_some_iff.mp H
                      obtain ⟨t130, A150, H⟩ := H
                      replace H : (if t130 = true then (some false) else (if (t121.length : Int) = 2 then ((table_Result.f t113).bind fun t131 => (some ((t131.length : Int) == 2))) else (some false))) = some r := H
                      have A15 := Aside0.mk A150
                      clear A150
                      by_cases c16 : t130 = true
                      · subst c16
                        have H1 : (some false) = some r := by rw [if_pos rfl] at H; exact H
                        clear H
                        have H := H1
                        clear H1
                        exact absurd (Option.some.inj H) (by rw [hrt_]; decide)
                      · replace c16 := Bool.eq_false_iff.mpr c16
                        subst c16
                        have H1 : (if (t121.length : Int) = 2 then ((table_Result.f t113).bind fun t131 => (some ((t131.length : Int) == 2))) else (some false)) = some r := by rw [if_neg (show ¬ (false = true) by decide)] at H; exact H
                        clear H
                        have H := H1
                        clear H1
                        by_cases c35 : (t121.length : Int) = 2
                        · rw [if_pos c35] at H
                          have c35b0 : ((t121.length : Int) == 2) = true := beq_iff_eq.mpr c35
                          have c35b1 : ((t121.length : Int) != 2) = false := bne_eq_false_iff_eq.mpr c35
                          clear c35
                          replace H := Option.bind_eq_some_iff.mp H
                          obtain ⟨t131, A360, H⟩ := H
                          replace H : (some ((t131.length : Int) == 2)) = some r := H
                          have A36 := Aside0.mk A360
                          clear A360
                          obtain rfl := Option.some.inj H
                          go_enter Try.func23, Try.ntmps23
                          go_wp2_with (first | ((with_reducible refine gate_dst (N := 7) rfl ?_); (try (refine gate_guard (by rfl) ?_; dsimp only)); refine Kd.R_lit Kd.string _ 9 ?hg (N := 7) ?hd (xs := ([(⟨#[97, 10]⟩ : ByteArray), (⟨#[99, 10]⟩ : ByteArray)] : List ByteArray)) (inner := [.string (⟨#[97, 10]⟩ : ByteArray), .string (⟨#[99, 10]⟩ : ByteArray)]) (ok := fun _ => True) (okp := fun _ => True) ?hr ?hp (fun _ hk => hk) trivial (Below.refl _ _) (Nat.le_refl _) (by simp) ?_; (case hd => rfl); (case hg => rfl); (case hr => first | (go_simp; done) | (go_simp; rfl)); (case hp => exact (Reps.one (show Kd.M Kd.string _ _ _ (⟨#[97, 10]⟩ : ByteArray) [.string (⟨#[97, 10]⟩ : ByteArray)] from rfl) (Reps.one (show Kd.M Kd.string _ _ _ (⟨#[99, 10]⟩ : ByteArray) [.string (⟨#[99, 10]⟩ : ByteArray)] from rfl) (Reps.none _ _)))); intro v102 w37 ho38 hb hg_ hnew_; clear hg_ hnew_; (first | rw [← Ny101.out] at ho38 | (simp only [Int.reduceToNat] at ho38; rw [← Ny101.out] at ho38)); have n0_ := Aside0.mk (Kd.R_lower ho38 (below_size (by repeat (first | (with_reducible first | exact HB.out | apply below_alloc | apply pw_below_drewN | apply below_drew1) | exact HB.out)))); have n1_ := Aside0.mk (below_step (by repeat (first | (with_reducible first | exact HB.out | apply below_alloc | apply pw_below_drewN | apply below_drew1) | exact HB.out)) hb); clear HB; have HO103 := n0_; have HB := n1_; clear n0_ n1_; clear hb ho38) | ((with_reducible refine gate_dst (N := 8) rfl ?_); (try (refine gate_guard (by rfl) ?_; dsimp only)); refine Kd.R_lit Kd.string _ 9 ?hg (N := 8) ?hd (xs := ([(⟨#[97, 10]⟩ : ByteArray), (⟨#[98, 10]⟩ : ByteArray)] : List ByteArray)) (inner := [.string (⟨#[97, 10]⟩ : ByteArray), .string (⟨#[98, 10]⟩ : ByteArray)]) (ok := fun _ => True) (okp := fun _ => True) ?hr ?hp (fun _ hk => hk) trivial (Below.refl _ _) (Nat.le_refl _) (by simp) ?_; (case hd => rfl); (case hg => rfl); (case hr => first | (go_simp; done) | (go_simp; rfl)); (case hp => exact (Reps.one (show Kd.M Kd.string _ _ _ (⟨#[97, 10]⟩ : ByteArray) [.string (⟨#[97, 10]⟩ : ByteArray)] from rfl) (Reps.one (show Kd.M Kd.string _ _ _ (⟨#[98, 10]⟩ : ByteArray) [.string (⟨#[98, 10]⟩ : ByteArray)] from rfl) (Reps.none _ _)))); intro v105 w39 ho40 hb hg_ hnew_; clear hg_ hnew_; (first | rw [← Ny104.out] at ho40 | (simp only [Int.reduceToNat] at ho40; rw [← Ny104.out] at ho40)); have n0_ := Aside0.mk (Kd.R_elder' (by (with_reducible repeat (first | apply Kd.R_alloc | apply Kd.R_drewN | apply Kd.R_drew)); exact HO103.out) (Kd.R_base ho40) hb); have n1_ := Aside0.mk (Kd.R_lower (Kd.R_new' ho40 (Kd.R_lt (by (with_reducible repeat (first | apply Kd.R_alloc | apply Kd.R_drewN | apply Kd.R_drew)); exact HO103.out))) (below_size (by repeat (first | (with_reducible first | exact HB.out | apply below_alloc | apply pw_below_drewN | apply below_drew1) | exact HB.out)))); have n2_ := Aside0.mk (below_step (by repeat (first | (with_reducible first | exact HB.out | apply below_alloc | apply pw_below_drewN | apply below_drew1) | exact HB.out)) hb); clear HO103; clear HB; have HO103 := n0_; have HO106 := n1_; have HB := n2_; clear n0_ n1_ n2_; clear hb ho40) | ((with_reducible refine gate_dst (N := 9) rfl ?_); (try (refine gate_guard (by rfl) ?_; dsimp only)); refine Kd.R_lit Kd.string _ 9 ?hg (N := 9) ?hd (xs := ([(⟨#[97, 10]⟩ : ByteArray), (⟨#[99, 10]⟩ : ByteArray)] : List ByteArray)) (inner := [.string (⟨#[97, 10]⟩ : ByteArray), .string (⟨#[99, 10]⟩ : ByteArray)]) (ok := fun _ => True) (okp := fun _ => True) ?hr ?hp (fun _ hk => hk) trivial (Below.refl _ _) (Nat.le_refl _) (by simp) ?_; (case hd => rfl); (case hg => rfl); (case hr => first | (go_simp; done) | (go_simp; rfl)); (case hp => exact (Reps.one (show Kd.M Kd.string _ _ _ (⟨#[97, 10]⟩ : ByteArray) [.string (⟨#[97, 10]⟩ : ByteArray)] from rfl) (Reps.one (show Kd.M Kd.string _ _ _ (⟨#[99, 10]⟩ : ByteArray) [.string (⟨#[99, 10]⟩ : ByteArray)] from rfl) (Reps.none _ _)))); intro v108 w41 ho42 hb hg_ hnew_; clear hg_ hnew_; (first | rw [← Ny107.out] at ho42 | (simp only [Int.reduceToNat] at ho42; rw [← Ny107.out] at ho42)); have n0_ := Aside0.mk (Kd.R_elder' (by (with_reducible repeat (first | apply Kd.R_alloc | apply Kd.R_drewN | apply Kd.R_drew)); exact HO103.out) (Kd.R_base ho42) hb); have n1_ := Aside0.mk (Kd.R_elder' (by (with_reducible repeat (first | apply Kd.R_alloc | apply Kd.R_drewN | apply Kd.R_drew)); exact HO106.out) (Kd.R_base ho42) hb); have n2_ := Aside0.mk (Kd.R_lower (Kd.R_new' (Kd.R_new' ho42 (Kd.R_lt (by (with_reducible repeat (first | apply Kd.R_alloc | apply Kd.R_drewN | apply Kd.R_drew)); exact HO103.out))) (Kd.R_lt (by (with_reducible repeat (first | apply Kd.R_alloc | apply Kd.R_drewN | apply Kd.R_drew)); exact HO106.out))) (below_size (by repeat (first | (with_reducible first | exact HB.out | apply below_alloc | apply pw_below_drewN | apply below_drew1) | exact HB.out)))); have n3_ := Aside0.mk (below_step (by repeat (first | (with_reducible first | exact HB.out | apply below_alloc | apply pw_below_drewN | apply below_drew1) | exact HB.out)) hb); clear HO103; clear HO106; clear HB; have HO103 := n0_; have HO106 := n1_; have HO109 := n2_; have HB := n3_; clear n0_ n1_ n2_ n3_; clear hb ho42; obtain ⟨Ao43, co43, eo43⟩ := Kd.R_slice HO106.out; subst eo43; obtain ⟨Ao44, co44, eo44⟩ := Kd.R_slice HO109.out; subst eo44) | ((with_reducible refine gate_dst (N := 10) rfl ?_); (try (refine gate_guard (by rfl) ?_; dsimp only)); refine Kd.N_lit (Kd.slice 9 Kd.string) _ 34 ?hg (N' := 10) ?hd (xs := ([y104, y107] : List (List ByteArray))) (inner := [.slice Ao43 y104.length co43, .slice Ao44 y107.length co44]) (ok := (fun k_ => some k_ ≠ (v102 : Value).ownBlock)) (okp := (fun k_ => some k_ ≠ (v102 : Value).ownBlock)) ?hr ?hp (fun _ hk => hk) ((show ∀ k_, w41.heap.size ≤ k_ → (fun k_ => some k_ ≠ (v102 : Value).ownBlock) k_ from fun k_ hk => Kd.fresh' (Kd.R_lt (by (with_reducible repeat (first | apply Kd.R_alloc | apply Kd.R_drewN | apply Kd.R_drew)); exact HO103.out)) k_ hk) _ (Nat.le_refl _)) (Below.refl _ _) (Nat.le_refl _) (by simp) ?_; (case hd => rfl); (case hg => rfl); (case hr => first | (go_simp; done) | (go_simp; rfl)); (case hp => first | exact (Reps.one (show Kd.FK (Kd.slice 9 Kd.string) _ _ y104 [.slice Ao43 y104.length co43] from (Kd.FK_slice_mk (Kd.R_reads' (Kd.R_mono (ok' := (fun k_ => some k_ ≠ (v102 : Value).ownBlock)) (HO106.out) (fun k_ hk => hk.1.2))).2.1 (Kd.R_F (Kd.R_mono (ok' := (fun k_ => some k_ ≠ (v102 : Value).ownBlock)) (HO106.out) (fun k_ hk => hk.1.2))))) (Reps.one (show Kd.FK (Kd.slice 9 Kd.string) _ _ y107 [.slice Ao44 y107.length co44] from (Kd.FK_slice_mk (Kd.R_reads' (Kd.R_mono (ok' := (fun k_ => some k_ ≠ (v102 : Value).ownBlock)) (HO109.out) (fun k_ hk => hk.1.2))).2.1 (Kd.R_F (Kd.R_mono (ok' := (fun k_ => some k_ ≠ (v102 : Value).ownBlock)) (HO109.out) (fun k_ hk => hk.1.2))))) (Reps.none _ _))) | exact (Reps.one (show Kd.FK (Kd.slice 9 Kd.string) _ _ y104 [.slice Ao43 y104.length co43] from (Kd.FK_slice_mk (Kd.R_reads' (Kd.R_mono (ok' := (fun k_ => some k_ ≠ (v102 : Value).ownBlock)) (HO106.out) (fun k_ hk => hk.1.2))).2.1 (Kd.R_F (Kd.R_mono (ok' := (fun k_ => some k_ ≠ (v102 : Value).ownBlock)) (Kd.R_drewN HO106.out _) (fun k_ hk => hk.1.2))))) (Reps.one (show Kd.FK (Kd.slice 9 Kd.string) _ _ y107 [.slice Ao44 y107.length co44] from (Kd.FK_slice_mk (Kd.R_reads' (Kd.R_mono (ok' := (fun k_ => some k_ ≠ (v102 : Value).ownBlock)) (HO109.out) (fun k_ hk => hk.1.2))).2.1 (Kd.R_F (Kd.R_mono (ok' := (fun k_ => some k_ ≠ (v102 : Value).ownBlock)) (Kd.R_drewN HO109.out _) (fun k_ hk => hk.1.2))))) (Reps.none _ _)))); intro v111 w45 ho46 hb hg_ hnew_; clear hg_ hnew_; (first | rw [← Ny110.out] at ho46 | (simp only [Int.reduceToNat] at ho46; rw [← Ny110.out] at ho46)); have n0_ := Aside0.mk (Kd.R_below (by (with_reducible repeat (first | apply Kd.R_alloc | apply Kd.R_drewN | apply Kd.R_drew)); exact HO103.out) hb); have n1_ := Aside0.mk (Kd.N_lower ho46 (below_size (by repeat (first | (with_reducible first | exact HB.out | apply below_alloc | apply pw_below_drewN | apply below_drew1) | exact HB.out)))); have n2_ := Aside0.mk (below_step (by repeat (first | (with_reducible first | exact HB.out | apply below_alloc | apply pw_below_drewN | apply below_drew1) | exact HB.out)) hb); clear HO103; clear HB; clear HO106; clear HO109; have HO103 := n0_; have HO112 := n1_; have HB := n2_; clear n0_ n1_ n2_; clear hb ho46; obtain ⟨Ao47, co47, eo47⟩ := Kd.R_slice HO103.out; subst eo47; obtain ⟨Ao48, co48, eo48⟩ := Kd.N_slice HO112.out; subst eo48) | ((with_reducible refine gate_callee (f := 25) rfl ?_); refine goesL_ (some 11) rfl rfl Try.func25 (by kernel_rfl) rfl #[.slice Ao47 y101.length co47, .slice Ao48 y110.length co48] rfl (by (try simp only [List.map_toArray, List.map_cons, List.map_nil]); first | done | rfl | (simp only [List.length_drop, List.length_take]; rfl)) ?_; (with_reducible refine (table_Table.calls _ _ y101 _ _ y110 t113 t114 _ ?side1 ?side2 ?side3 ?side4 A1.out).mono ?_); (case side1 => repeat (first | exact (Kd.R_reads' HO103.out).2.2 | (with_reducible refine Kd.C_alloc ?_ _) | (with_reducible refine Kd.C_drewN ?_ _) | (with_reducible refine Kd.C_drew ?_))); (case side2 => exact (Kd.R_reads' HO103.out).2.1); (case side3 => repeat (first | exact (Kd.N_reads' HO112.out).2.2 | (with_reducible refine Kd.C_alloc ?_ _) | (with_reducible refine Kd.C_drewN ?_ _) | (with_reducible refine Kd.C_drew ?_))); (case side4 => exact (Kd.N_reads' HO112.out).2.1); rintro e w49 ⟨v115, rfl, ho0, hb⟩; refine ⟨_, rfl, ?_⟩; have n0_ := Aside0.mk (Kd.R_below (by (with_reducible repeat (first | apply Kd.R_alloc | apply Kd.R_drewN | apply Kd.R_drew)); exact HO103.out) hb); have n1_ := Aside0.mk (Kd.N_elder' (by (with_reducible repeat (first | apply Kd.N_alloc | apply Kd.N_drewN | apply Kd.N_drew)); exact HO112.out) (Kd.R_base ho0) hb); have n2_ := Aside0.mk (Kd.R_lower ho0 (below_size (by repeat (first | (with_reducible first | exact HB.out | apply below_alloc | apply pw_below_drewN | apply below_drew1) | exact HB.out)))); have n3_ := Aside0.mk (below_step (by repeat (first | (with_reducible first | exact HB.out | apply below_alloc | apply pw_below_drewN | apply below_drew1) | exact HB.out)) hb); clear HO103; clear HO112; clear HB; have HO103 := n0_; have HO112 := n1_; have HO116 := n2_; have HB := n3_; clear n0_ n1_ n2_ n3_; (try clear hb); (try clear hb2); (try clear hk); (try clear hi); (try clear ho0)) | ((with_reducible refine gate_callee (f := 25) rfl ?_); refine goesL_ (some 15) rfl rfl Try.func25 (by kernel_rfl) rfl #[.slice none 0 0, .slice none 0 0] rfl (by (try simp only [List.map_toArray, List.map_cons, List.map_nil]); first | done | rfl | (simp only [List.length_drop, List.length_take]; rfl)) ?_; (refine (table_Table.calls _ _ ([] : List ByteArray) _ _ ([] : List (List ByteArray)) t117 t118 _ ?side1 ?side2 ?side3 ?side4 A2.out).mono ?_); (case side1 => exact Kd.C_nil _ _); (case side2 => exact Nat.le_refl _); (case side3 => exact Kd.C_nil _ _); (case side4 => exact Nat.le_refl _); rintro e w50 ⟨v119, rfl, ho0, hb⟩; refine ⟨_, rfl, ?_⟩; have n0_ := Aside0.mk (Kd.R_below (by (with_reducible repeat (first | apply Kd.R_alloc | apply Kd.R_drewN | apply Kd.R_drew)); exact HO103.out) hb); have n1_ := Aside0.mk (Kd.N_elder' (by (with_reducible repeat (first | apply Kd.N_alloc | apply Kd.N_drewN | apply Kd.N_drew)); exact HO112.out) (Kd.R_base ho0) hb); have n2_ := Aside0.mk (Kd.R_elder' (by (with_reducible repeat (first | apply Kd.R_alloc | apply Kd.R_drewN | apply Kd.R_drew)); exact HO116.out) (Kd.R_base ho0) hb); have n3_ := Aside0.mk (Kd.R_lower (Kd.R_new' ho0 (Kd.R_lt (by (with_reducible repeat (first | apply Kd.R_alloc | apply Kd.R_drewN | apply Kd.R_drew)); exact HO116.out))) (below_size (by repeat (first | (with_reducible first | exact HB.out | apply below_alloc | apply pw_below_drewN | apply below_drew1) | exact HB.out)))); have n4_ := Aside0.mk (below_step (by repeat (first | (with_reducible first | exact HB.out | apply below_alloc | apply pw_below_drewN | apply below_drew1) | exact HB.out)) hb); clear HO103; clear HO112; clear HO116; clear HB; have HO103 := n0_; have HO112 := n1_; have HO116 := n2_; have HO120 := n3_; have HB := n4_; clear n0_ n1_ n2_ n3_ n4_; (try clear hb); (try clear hb2); (try clear hk); (try clear hi); (try clear ho0); obtain ⟨Ao51, co51, eo51⟩ := Kd.R_slice HO116.out; subst eo51) | ((with_reducible refine gate_callee (f := 28) rfl ?_); refine goesL_ (some 19) rfl rfl Try.func28 (by kernel_rfl) rfl #[.slice Ao51 t113.length co51, .int .i64 0] rfl (by (try simp only [List.map_toArray, List.map_cons, List.map_nil]); first | done | rfl | (simp only [List.length_drop, List.length_take]; rfl)) ?_; (with_reducible refine (table_Column.calls _ _ t113 0 t121 _ ?side1 ?side2 A3.out).mono ?_); (case side1 => repeat (first | exact (Kd.R_reads' HO116.out).2.2 | (with_reducible refine Kd.C_alloc ?_ _) | (with_reducible refine Kd.C_drewN ?_ _) | (with_reducible refine Kd.C_drew ?_))); (case side2 => exact (Kd.R_reads' HO116.out).2.1); rintro e w52 ⟨v122, rfl, ho0, hb⟩; refine ⟨_, rfl, ?_⟩; have n0_ := Aside0.mk (Kd.R_elder' (by (with_reducible repeat (first | apply Kd.R_alloc | apply Kd.R_drewN | apply Kd.R_drew)); exact HO103.out) (Kd.R_base ho0) hb); have n1_ := Aside0.mk (Kd.N_elder' (by (with_reducible repeat (first | apply Kd.N_alloc | apply Kd.N_drewN | apply Kd.N_drew)); exact HO112.out) (Kd.R_base ho0) hb); have n2_ := Aside0.mk (Kd.R_below (by (with_reducible repeat (first | apply Kd.R_alloc | apply Kd.R_drewN | apply Kd.R_drew)); exact HO116.out) hb); have n3_ := Aside0.mk (Kd.R_below (by (with_reducible repeat (first | apply Kd.R_alloc | apply Kd.R_drewN | apply Kd.R_drew)); exact HO120.out) hb); have n4_ := Aside0.mk (Kd.R_lower (Kd.R_new' ho0 (Kd.R_lt (by (with_reducible repeat (first | apply Kd.R_alloc | apply Kd.R_drewN | apply Kd.R_drew)); exact HO103.out))) (below_size (by repeat (first | (with_reducible first | exact HB.out | apply below_alloc | apply pw_below_drewN | apply below_drew1) | exact HB.out)))); have n5_ := Aside0.mk (below_step (by repeat (first | (with_reducible first | exact HB.out | apply below_alloc | apply pw_below_drewN | apply below_drew1) | exact HB.out)) hb); clear HO103; clear HO112; clear HO116; clear HO120; clear HB; have HO103 := n0_; have HO112 := n1_; have HO116 := n2_; have HO120 := n3_; have HO123 := n4_; have HB := n5_; clear n0_ n1_ n2_ n3_ n4_ n5_; (try clear hb); (try clear hb2); (try clear hk); (try clear hi); (try clear ho0); have p124 : 0 ≤ (0 : Int) := (by omega); have q124 : 0 < (t113.length : Int) := of_decide_eq_true (by first | (with_reducible assumption) | assumption); obtain ⟨ad124, e124, hx124_0, hx124_1⟩ := at_T37 (Kd.R_reads' HO116.out).2.2 0 p124 q124; cases e124; have qi124 : (0 < t113.length) = True := eq_true (by omega); (try rw [show ((0 : Int)).toNat = 0 from rfl] at hx124_0); (try rw [show 0 * 2 = 0 from rfl] at hx124_0); (try rw [Addr.add_zero'] at hx124_0); (try rw [show ((0 : Int)).toNat = 0 from rfl] at hx124_1); (try rw [show 0 * 2 = 0 from rfl] at hx124_1); (try rw [Addr.add_zero'] at hx124_1); replace p124 := eq_true p124; replace q124 := eq_true q124; have p125 : 0 ≤ (1 : Int) := (by omega); have q125 : 1 < (t113.length : Int) := of_decide_eq_true (by first | (with_reducible assumption) | assumption); obtain ⟨ad125, e125, hx125_0, hx125_1⟩ := at_T37 (Kd.R_reads' HO116.out).2.2 1 p125 q125; obtain rfl : ad124 = ad125 := (by injection e125); (try simp only [show (1 : Int).toNat = 1 from rfl, Nat.reduceMul, Nat.reduceEqDiff, Go.Addr.add, ↓reduceIte] at hx125_0); (try simp only [show (1 : Int).toNat = 1 from rfl, Nat.reduceMul, Nat.reduceEqDiff, Go.Addr.add, ↓reduceIte] at hx125_1); have qi125 : (1 < t113.length) = True := eq_true (by omega); (try rw [show ((1 : Int)).toNat = 1 from rfl] at hx125_0); (try rw [show 1 * 2 = 2 from rfl] at hx125_0); (try rw [show ((1 : Int)).toNat = 1 from rfl] at hx125_1); (try rw [show 1 * 2 = 2 from rfl] at hx125_1); replace p125 := eq_true p125; replace q125 := eq_true q125; have p126 : 0 ≤ (2 : Int) := (by omega); have q126 : 2 < (t113.length : Int) := of_decide_eq_true (by first | (with_reducible assumption) | assumption); obtain ⟨ad126, e126, hx126_0, hx126_1⟩ := at_T37 (Kd.R_reads' HO116.out).2.2 2 p126 q126; obtain rfl : ad124 = ad126 := (by injection e126); (try simp only [show (2 : Int).toNat = 2 from rfl, Nat.reduceMul, Nat.reduceEqDiff, Go.Addr.add, ↓reduceIte] at hx126_0); (try simp only [show (2 : Int).toNat = 2 from rfl, Nat.reduceMul, Nat.reduceEqDiff, Go.Addr.add, ↓reduceIte] at hx126_1); have qi126 : (2 < t113.length) = True := eq_true (by omega); (try rw [show ((2 : Int)).toNat = 2 from rfl] at hx126_0); (try rw [show 2 * 2 = 4 from rfl] at hx126_0); (try rw [show ((2 : Int)).toNat = 2 from rfl] at hx126_1); (try rw [show 2 * 2 = 4 from rfl] at hx126_1); replace p126 := eq_true p126; replace q126 := eq_true q126; have p127 : 0 ≤ (1 : Int) := (by omega); have q127 : 1 < (t113.length : Int) := of_decide_eq_true (by first | (with_reducible assumption) | assumption); obtain ⟨ad127, e127, hx127_0, hx127_1⟩ := at_T37 (Kd.R_reads' HO116.out).2.2 1 p127 q127; obtain rfl : ad124 = ad127 := (by injection e127); (try simp only [show (1 : Int).toNat = 1 from rfl, Nat.reduceMul, Nat.reduceEqDiff, Go.Addr.add, ↓reduceIte] at hx127_0); (try simp only [show (1 : Int).toNat = 1 from rfl, Nat.reduceMul, Nat.reduceEqDiff, Go.Addr.add, ↓reduceIte] at hx127_1); have qi127 : (1 < t113.length) = True := eq_true (by omega); (try rw [show ((1 : Int)).toNat = 1 from rfl] at hx127_0); (try rw [show 1 * 2 = 2 from rfl] at hx127_0); (try rw [show ((1 : Int)).toNat = 1 from rfl] at hx127_1); (try rw [show 1 * 2 = 2 from rfl] at hx127_1); replace p127 := eq_true p127; replace q127 := eq_true q127) | (go_at_call 32; (with_reducible refine (table_Lost.calls ((rd_T37 t113 1).f0) ((rd_T37 t113 1).f1) true _ A13.out).mono ?_); rintro e w53 ⟨rfl, hb⟩; have n0_ := Aside0.mk (Kd.R_below (by (with_reducible repeat (first | apply Kd.R_alloc | apply Kd.R_drewN | apply Kd.R_drew)); exact HO103.out) hb); have n1_ := Aside0.mk (Kd.N_below (by (with_reducible repeat (first | apply Kd.N_alloc | apply Kd.N_drewN | apply Kd.N_drew)); exact HO112.out) hb); have n2_ := Aside0.mk (Kd.R_below (by (with_reducible repeat (first | apply Kd.R_alloc | apply Kd.R_drewN | apply Kd.R_drew)); exact HO116.out) hb); have n3_ := Aside0.mk (Kd.R_below (by (with_reducible repeat (first | apply Kd.R_alloc | apply Kd.R_drewN | apply Kd.R_drew)); exact HO120.out) hb); have n4_ := Aside0.mk (Kd.R_below (by (with_reducible repeat (first | apply Kd.R_alloc | apply Kd.R_drewN | apply Kd.R_drew)); exact HO123.out) hb); have n5_ := Aside0.mk (below_step (by repeat (first | (with_reducible first | exact HB.out | apply below_alloc | apply pw_below_drewN | apply below_drew1) | exact HB.out)) hb); clear HO103; clear HO112; clear HO116; clear HO120; clear HO123; clear HB; have HO103 := n0_; have HO112 := n1_; have HO116 := n2_; have HO120 := n3_; have HO123 := n4_; have HB := n5_; clear n0_ n1_ n2_ n3_ n4_ n5_; (try clear hb); (try clear hb2); (try clear hk); (try clear hi); have p129 : 0 ≤ (2 : Int) := (by omega); have q129 : 2 < (t113.length : Int) := of_decide_eq_true (by first | (with_reducible assumption) | assumption); obtain ⟨ad129, e129, hx129_0, hx129_1⟩ := at_T37 (Kd.R_reads' HO116.out).2.2 2 p129 q129; obtain rfl : ad124 = ad129 := (by injection e129); (try simp only [show (2 : Int).toNat = 2 from rfl, Nat.reduceMul, Nat.reduceEqDiff, Go.Addr.add, ↓reduceIte] at hx129_0); (try simp only [show (2 : Int).toNat = 2 from rfl, Nat.reduceMul, Nat.reduceEqDiff, Go.Addr.add, ↓reduceIte] at hx129_1); have qi129 : (2 < t113.length) = True := eq_true (by omega); (try rw [show ((2 : Int)).toNat = 2 from rfl] at hx129_0); (try rw [show 2 * 2 = 4 from rfl] at hx129_0); (try rw [show ((2 : Int)).toNat = 2 from rfl] at hx129_1); (try rw [show 2 * 2 = 4 from rfl] at hx129_1); replace p129 := eq_true p129; replace q129 := eq_true q129) | (go_at_call 32; (with_reducible refine (table_Lost.calls ((rd_T37 t113 2).f0) ((rd_T37 t113 2).f1) false _ A15.out).mono ?_); rintro e w54 ⟨rfl, hb⟩; have n0_ := Aside0.mk (Kd.R_below (by (with_reducible repeat (first | apply Kd.R_alloc | apply Kd.R_drewN | apply Kd.R_drew)); exact HO103.out) hb); have n1_ := Aside0.mk (Kd.N_below (by (with_reducible repeat (first | apply Kd.N_alloc | apply Kd.N_drewN | apply Kd.N_drew)); exact HO112.out) hb); have n2_ := Aside0.mk (Kd.R_below (by (with_reducible repeat (first | apply Kd.R_alloc | apply Kd.R_drewN | apply Kd.R_drew)); exact HO116.out) hb); have n3_ := Aside0.mk (Kd.R_below (by (with_reducible repeat (first | apply Kd.R_alloc | apply Kd.R_drewN | apply Kd.R_drew)); exact HO120.out) hb); have n4_ := Aside0.mk (Kd.R_below (by (with_reducible repeat (first | apply Kd.R_alloc | apply Kd.R_drewN | apply Kd.R_drew)); exact HO123.out) hb); have n5_ := Aside0.mk (below_step (by repeat (first | (with_reducible first | exact HB.out | apply below_alloc | apply pw_below_drewN | apply below_drew1) | exact HB.out)) hb); clear HO103; clear HO112; clear HO116; clear HO120; clear HO123; clear HB; have HO103 := n0_; have HO112 := n1_; have HO116 := n2_; have HO120 := n3_; have HO123 := n4_; have HB := n5_; clear n0_ n1_ n2_ n3_ n4_ n5_; (try clear hb); (try clear hb2); (try clear hk); (try clear hi); obtain ⟨Ao55, co55, eo55⟩ := Kd.R_slice HO123.out; subst eo55) | (go_at_call 29; (with_reducible refine (table_Result.calls _ _ t113 t131 _ ?side1 ?side2 A36.out).mono ?_); (case side1 => repeat (first | exact (Kd.R_reads' HO116.out).2.2 | (with_reducible refine Kd.C_alloc ?_ _) | (with_reducible refine Kd.C_drewN ?_ _) | (with_reducible refine Kd.C_drew ?_))); (case side2 => exact (Kd.R_reads' HO116.out).2.1); rintro e w56 ⟨v132, rfl, ho0, hb⟩; have n0_ := Aside0.mk (Kd.R_elder' (by (with_reducible repeat (first | apply Kd.R_alloc | apply Kd.R_drewN | apply Kd.R_drew)); exact HO103.out) (Kd.R_base ho0) hb); have n1_ := Aside0.mk (Kd.N_elder' (by (with_reducible repeat (first | apply Kd.N_alloc | apply Kd.N_drewN | apply Kd.N_drew)); exact HO112.out) (Kd.R_base ho0) hb); have n2_ := Aside0.mk (Kd.R_below (by (with_reducible repeat (first | apply Kd.R_alloc | apply Kd.R_drewN | apply Kd.R_drew)); exact HO116.out) hb); have n3_ := Aside0.mk (Kd.R_below (by (with_reducible repeat (first | apply Kd.R_alloc | apply Kd.R_drewN | apply Kd.R_drew)); exact HO120.out) hb); have n4_ := Aside0.mk (Kd.R_elder' (by (with_reducible repeat (first | apply Kd.R_alloc | apply Kd.R_drewN | apply Kd.R_drew)); exact HO123.out) (Kd.R_base ho0) hb); have n5_ := Aside0.mk (Kd.R_lower (Kd.R_new' (Kd.R_new' ho0 (Kd.R_lt (by (with_reducible repeat (first | apply Kd.R_alloc | apply Kd.R_drewN | apply Kd.R_drew)); exact HO103.out))) (Kd.R_lt (by (with_reducible repeat (first | apply Kd.R_alloc | apply Kd.R_drewN | apply Kd.R_drew)); exact HO123.out))) (below_size (by repeat (first | (with_reducible first | exact HB.out | apply below_alloc | apply pw_below_drewN | apply below_drew1) | exact HB.out)))); have n6_ := Aside0.mk (below_step (by repeat (first | (with_reducible first | exact HB.out | apply below_alloc | apply pw_below_drewN | apply below_drew1) | exact HB.out)) hb); clear HO103; clear HO112; clear HO116; clear HO120; clear HO123; clear HB; have HO103 := n0_; have HO112 := n1_; have HO116 := n2_; have HO120 := n3_; have HO123 := n4_; have HO133 := n5_; have HB := n6_; clear n0_ n1_ n2_ n3_ n4_ n5_ n6_; (try clear hb); (try clear hb2); (try clear hk); (try clear hi); (try clear ho0); obtain ⟨Ao57, co57, eo57⟩ := Kd.R_slice HO133.out; subst eo57))
                          go_ret
                          exact ⟨by first | rfl | (simp [errW_none, errW_some] <;> rfl) | (simp [*, errW_none, errW_some] <;> rfl), by repeat (first | (with_reducible first | exact HB.out | apply below_alloc | apply pw_below_drewN | apply below_drew1) | exact HB.out)⟩
                        · rw [if_neg c35] at H
                          have c35b0 : ((t121.length : Int) == 2) = false := beq_eq_false_iff_ne.mpr c35
                          have c35b1 : ((t121.length : Int) != 2) = true := bne_iff_ne.mpr c35
                          exact absurd (Option.some.inj H) (by rw [hrt_]; decide)
                    · replace c14 := Bool.eq_false_iff.mpr c14
                      subst c14
                      have H1 : (some false) = some r := by rw [if_neg (show ¬ (false = true) by decide)] at H; exact H
                      clear H
                      have H := H1
                      clear H1
                      exact absurd (Option.some.inj H) (by rw [hrt_]; decide)
                  · rw [if_neg c12] at H
                    have c12b0 : (((rd_T37 t113 2).f0).toList == ([43, 32] : List UInt8)) = false := beq_eq_false_iff_ne.mpr c12
                    have c12b1 : (((rd_T37 t113 2).f0).toList != ([43, 32] : List UInt8)) = true := bne_iff_ne.mpr c12
                    exact absurd (Option.some.inj H) (by rw [hrt_]; decide)
                · rw [if_neg c11] at H
                  exact absurd H (by simp)
              · rw [if_neg c10] at H
                have c10b0 : ((((rd_T37 t113 1).f0).toList) == ([45, 32] : List UInt8) && ((((rd_T37 t113 1).f1).toList) == ([98, 10] : List UInt8))) = false := by simpa using c10
                (try (have c10b1 : decide ((((rd_T37 t113 1).f0).toList) = ([45, 32] : List UInt8) && ((((rd_T37 t113 1).f1).toList) == ([98, 10] : List UInt8))) = false := by simpa using c10))
                (try (have c10b2 : ((((rd_T37 t113 1).f0).toList) == ([45, 32] : List UInt8) && ((((rd_T37 t113 1).f1).toList) == ([98, 10] : List UInt8))) = false := by simpa using c10))
                (try (have c10b3 : ¬ ((((rd_T37 t113 1).f0).toList) = ([45, 32] : List UInt8) && ((((rd_T37 t113 1).f1).toList) == ([98, 10] : List UInt8))) := by simpa using c10))
                clear c10
                exact absurd (Option.some.inj H) (by rw [hrt_]; decide)
            · rw [if_neg c9] at H
              exact absurd H (by simp)
          · rw [if_neg c8] at H
            have c8b0 : (((rd_T37 t113 0).f0).toList == ([32, 32] : List UInt8)) = false := beq_eq_false_iff_ne.mpr c8
            have c8b1 : (((rd_T37 t113 0).f0).toList != ([32, 32] : List UInt8)) = true := bne_iff_ne.mpr c8
            exact absurd (Option.some.inj H) (by rw [hrt_]; decide)
        · rw [if_neg c7] at H
          exact absurd H (by simp)
      · rw [if_neg c6] at H
        have c6b0 : ((t113.length : Int) == 3) = false := beq_eq_false_iff_ne.mpr c6
        have c6b1 : ((t113.length : Int) != 3) = true := bne_iff_ne.mpr c6
        exact absurd (Option.some.inj H) (by rw [hrt_]; decide)
    · rw [if_neg c5] at H
      have c5b0 : (t118 == 1) = false := beq_eq_false_iff_ne.mpr c5
      have c5b1 : (t118 != 1) = true := bne_iff_ne.mpr c5
      exact absurd (Option.some.inj H) (by rw [hrt_]; decide)
  · rw [if_neg c4] at H
    have c4b0 : (t114 == 0) = false := beq_eq_false_iff_ne.mpr c4
    have c4b1 : (t114 != 0) = true := bne_iff_ne.mpr c4
    exact absurd (Option.some.inj H) (by rw [hrt_]; decide)
end Go.Proofs.Ytnlekganlliikaa.X
-- part XKn3
namespace Go.Proofs.Ytnlekganlliikaa.X
open Go.RowKit Go.Proofs.YtnlekganlliikaaW.PrintWords Go.Proofs.YtnlekganlliikaaW.PrintLast Go.Proofs.YtnlekganlliikaaW.PrintMore
attribute [local go_sem] max2_int min2_int max_two min_two max_three min_three max_four min_four   -- for this text's walks alone
set_option linter.unusedVariables false
set_option linter.unusedSimpArgs false
mutual
def sennitlaw20_TableSame.l0 : Nat → List ByteArray → Bool → Int → List (List ByteArray) → Int → Option (Bool)
  | 0, _, _, _, _, _ => none
  | k + 1, x0, x5, x6, x7, x8 => if x8 < x6 then (if x7.length < 5864062014805 then (sennitlaw20_TableSame.l0 k x0 x5 x6 (x7 ++ [x0]) (wrap64 (x8 + 1))) else (none)) else ((sennitref01_Few.f k x0 16).bind fun t184 => (if t184 = true then ((sennitref01_May.f k x0).bind fun t185 => (sennitlaw20_TableSame.j1 k x0 x5 x6 x7 (!t185))) else (sennitlaw20_TableSame.j1 k x0 x5 x6 x7 true)))
def sennitlaw20_TableSame.j1 : Nat → List ByteArray → Bool → Int → List (List ByteArray) → Bool → Option (Bool)
  | 0, _, _, _, _, _ => none
  | k + 1, x0, x5, x6, x7, x38 => if x38 = true then (some x5) else ((table_Table.f x0 x7).bind fun bt186 => ((table_Table.f ([] : List ByteArray) x7).bind fun bt190 => (if 0 ≤ x6 then (if (x6 : Int).toNat ≤ 11728124029610 then ((table_Table.f x0 (List.replicate (x6 : Int).toNat [])).bind fun bt197 => (if (bt186.1.length : Int) = (x0.length : Int) then (if (bt190.1.length : Int) = (x0.length : Int) then (sennitlaw20_TableSame.j2 k x5 x6 bt186.1 bt186.2 bt190.1 bt190.2 bt197.1 bt197.2 ((bt197.1.length : Int) != (x0.length : Int))) else (sennitlaw20_TableSame.j2 k x5 x6 bt186.1 bt186.2 bt190.1 bt190.2 bt197.1 bt197.2 true)) else (sennitlaw20_TableSame.j2 k x5 x6 bt186.1 bt186.2 bt190.1 bt190.2 bt197.1 bt197.2 true))) else (none)) else (none))))
def sennitlaw20_TableSame.j2 : Nat → Bool → Int → List (S37) → Int → List (S37) → Int → List (S37) → Int → Bool → Option (Bool)
  | 0, _, _, _, _, _, _, _, _, _ => none
  | k + 1, x5, x6, x9, x10, x11, x12, x13, x14, x76 => if x76 = true then (some false) else (sennitlaw20_TableSame.l1 k x5 x6 x9 x10 x11 x12 x13 x14 0)
def sennitlaw20_TableSame.l1 : Nat → Bool → Int → List (S37) → Int → List (S37) → Int → List (S37) → Int → Int → Option (Bool)
  | 0, _, _, _, _, _, _, _, _, _ => none
  | k + 1, x5, x6, x9, x10, x11, x12, x13, x14, x15 => if x15 < (x9.length : Int) then (sennitlaw20_TableSame.l2 k x5 x6 x9 x10 x11 x12 x13 x14 x15 0) else (if x5 = true then (if x10 = 0 then (if x12 = 0 then (some (x14 == 0)) else (some false)) else (some false)) else (some false))
def sennitlaw20_TableSame.l2 : Nat → Bool → Int → List (S37) → Int → List (S37) → Int → List (S37) → Int → Int → Int → Option (Bool)
  | 0, _, _, _, _, _, _, _, _, _, _ => none
  | k + 1, x5, x6, x9, x10, x11, x12, x13, x14, x15, x16 => if x16 < x6 then (if 0 ≤ x15 then (if x15 < (x9.length : Int) then (if (((rd_T37 x9 x15).f0).size : Int) = x6 then (if x15 < (x11.length : Int) then (if (((rd_T37 x11 x15).f0).size : Int) = x6 then (if x15 < (x13.length : Int) then (if (((rd_T37 x13 x15).f0).size : Int) = x6 then (if 0 ≤ x16 then (if x16 < (((rd_T37 x9 x15).f0).size : Int) then (if (bt ((rd_T37 x9 x15).f0) x16) = 32 then (if x16 < (((rd_T37 x11 x15).f0).size : Int) then (if (bt ((rd_T37 x11 x15).f0) x16) = 45 then (if x16 < (((rd_T37 x13 x15).f0).size : Int) then (if (bt ((rd_T37 x13 x15).f0) x16) = 43 then (sennitlaw20_TableSame.l2 k x5 x6 x9 x10 x11 x12 x13 x14 x15 (wrap64 (x16 + 1))) else (some false)) else (none)) else (some false)) else (none)) else (some false)) else (none)) else (none)) else (some false)) else (none)) else (some false)) else (none)) else (some false)) else (none)) else (none)) else (sennitlaw20_TableSame.l1 k x5 x6 x9 x10 x11 x12 x13 x14 (wrap64 (x15 + 1)))
end
def sennitlaw20_TableSame.f (k : Nat) (l0 : List ByteArray) (a1 : Int) : Option (Bool) := (sennitlaw20_awake.f).bind fun t180 => (sennitlaw20_TableSame.l0 k l0 t180 (wrap64 (1 + (Int.tmod (wrap64 (a1)) 16))) ([] : List (List ByteArray)) 0)
set_option maxHeartbeats 8000000 in
set_option maxRecDepth 100000 in
theorem sennitlaw20_TableSame.calls (k : Nat) (P0_ : Nat → Prop) (A0 : Option Addr) (c0 : Nat) (l0 : List ByteArray) (a1 : Int) (r : Bool) (w : World) (hs0 : Kd.V Kd.string 9 w w.heap.size (fun k_ => P0_ k_) (.slice A0 l0.length c0) l0) (h : sennitlaw20_TableSame.f k l0 a1 = some r) :
    Calls Try.prog 13 #[.slice A0 l0.length c0, .int .u8 a1] w fun e w' => e = .returned (.bool r) ∧ Below w.heap.size w w' := by
  have HO0 := Aside0.mk (show Kd.V Kd.string 9 w w.heap.size (fun k_ => (P0_ k_ ∨ w.heap.size ≤ k_)) (.slice A0 l0.length c0) l0 from Kd.V_mono hs0 (fun k_ hk => .inl hk))
  have HB := Aside0.mk (Below.refl w.heap.size w)
  have H : ((sennitlaw20_awake.f).bind fun t180 => (sennitlaw20_TableSame.l0 k l0 t180 (wrap64 (1 + (Int.tmod (wrap64 (a1)) 16))) ([] : List (List ByteArray)) 0)) = some r := h
  clear h
  replace H := Option.bind_eq_some_iff.mp H
  obtain ⟨t180, A30, H⟩ := H
  replace H : (sennitlaw20_TableSame.l0 k l0 t180 (wrap64 (1 + (Int.tmod (wrap64 (a1)) 16))) ([] : List (List ByteArray)) 0) = some r := H
  have A3 := Aside0.mk A30
  clear A30
  have H' := Aside0.mk H
  clear H
  go_enter Try.func13, Try.ntmps13
  go_wp2_with (first | ((with_reducible refine gate_callee (f := 23) rfl ?_); refine goesL_ (some 17) rfl rfl Try.func23 (by kernel_rfl) rfl #[] rfl (by (try simp only [List.map_toArray, List.map_cons, List.map_nil]); first | done | rfl | (simp only [List.length_drop, List.length_take]; rfl)) ?_; (with_reducible refine (sennitlaw20_awake.calls  t180 _ A3.out).mono ?_); rintro e w4 ⟨rfl, hb⟩; refine ⟨_, rfl, ?_⟩; have n0_ := Aside0.mk (Kd.V_below (by (with_reducible repeat (first | apply Kd.V_alloc | apply Kd.V_drewN | apply Kd.V_drew)); exact HO0.out) hb); have n1_ := Aside0.mk (below_step (by repeat (first | (with_reducible first | exact HB.out | apply below_alloc | apply pw_below_drewN | apply below_drew1) | exact HB.out)) hb); clear HO0; clear HB; have HO0 := n0_; have HB := n1_; clear n0_ n1_; (try clear hb); (try clear hb2); (try clear hk); (try clear hi)))
  go_loopg [7, 8] k (fun kq v7 v8 w' => ∃ (x7_1 : List (List ByteArray)) (x8_1 : Int), v8 = .int .i64 x8_1 ∧ Aside0 (sennitlaw20_TableSame.l0 kq l0 t180 (wrap64 (1 + (Int.tmod (wrap64 (a1)) 16))) x7_1 x8_1 = some r) ∧ Aside0 (kq ≤ k) ∧ Aside0 (Kd.V Kd.string 9 w' w.heap.size (fun k_ => (P0_ k_ ∨ w.heap.size ≤ k_) ∧ some k_ ≠ (v7 : Value).ownBlock) (.slice A0 l0.length c0) l0) ∧ Aside0 (Kd.N (Kd.slice 9 Kd.string) 34 w' w.heap.size (fun k_ => (P0_ k_ ∨ w.heap.size ≤ k_)) v7 x7_1) ∧ Aside0 (Below w.heap.size w w'))
  case atStart => exact ⟨(([] : List (List ByteArray))), (0), (by first | rfl | (simp; done) | (simp [*]; done)), H', ⟨Nat.le_refl _⟩, ⟨by (with_reducible repeat (first | apply Kd.V_alloc | apply Kd.V_drewN | apply Kd.V_drew)); exact Kd.V_mono HO0.out (fun _ hk => ⟨hk, (by simp [Value.ownBlock])⟩)⟩, ⟨by first | exact Kd.S_nil _ _ _ _ _ | exact Kd.N_nil _ _ _ _ _ | exact Kd.V_nil _ _ _ _ _ | exact Kd.Q_nil _ _ _ _ _ | exact Kd.R_nil _ _ _ _ _⟩, ⟨by repeat (first | (with_reducible first | exact HB.out | apply below_alloc | apply pw_below_drewN | apply below_drew1) | exact HB.out)⟩⟩
  case round =>
    clear H'
    try clear c1
    try clear c2
    try clear p2
    obtain ⟨x7_1, x8_1, rfl, HA, HK1, HO_0, HO_7, HB⟩ := hrel
    cases gk with
    | zero => exact absurd HA.out (by simp [sennitlaw20_TableSame.l0])
    | succ k1 =>
      have H := HA.out
      clear HA
      simp only [sennitlaw20_TableSame.l0] at H
      by_cases c5 : x8_1 < (wrap64 (1 + (Int.tmod (wrap64 (a1)) 16)))
      · rw [if_pos c5] at H
        have c5b0 : decide (x8_1 < (wrap64 (1 + (Int.tmod (wrap64 (a1)) 16)))) = true := decide_eq_true c5
        clear c5
        by_cases c6 : x7_1.length < 5864062014805
        · rw [if_pos c6] at H
          have LMc6 := Aside0.mk c6
          clear c6
          obtain ⟨y181, hy181⟩ : ∃ y_ : List (List ByteArray), y_ = (x7_1 ++ [l0]) := ⟨_, rfl⟩
          replace H : (sennitlaw20_TableSame.l0 k1 l0 t180 (wrap64 (1 + (Int.tmod (wrap64 (a1)) 16))) y181 (wrap64 (x8_1 + 1))) = some r := by first | (rw [hy181]; with_reducible exact H) | (have H2_ := (Option.bind_some _ _).symm.trans H; rw [hy181]; with_reducible exact H2_) | (have H2_ := (Option.bind_some _ _).symm.trans H; with_reducible exact H2_) | with_reducible exact H | (rw [hy181]; exact H) | exact H
          have Ny181 := Aside0.mk hy181
          clear hy181
          have H' := Aside0.mk H
          clear H
          go_wp2_with (first | ((with_reducible refine gate_builtin (b := .append) (xs := #[.tmp 27, .tmp 29]) rfl ?_); (try (refine gate_guard (by rfl) ?_; dsimp only)); at_builtin; refine Kd.N_append (Kd.slice 9 Kd.string) (w0 := w) w.heap.size rfl (.tmp 27) (.tmp 29) 22 34 (.slice none 0 0) 24 rfl Try.underlying22 info34 rfl (by decide) (by omega) u7 x7_1 l0 [.slice A0 l0.length c0] (fun k_ => (P0_ k_ ∨ w.heap.size ≤ k_)) (fun k_ => ((fun k_ => (P0_ k_ ∨ w.heap.size ≤ k_))) k_ ∧ some k_ ≠ (u7 : Value).ownBlock) rfl rfl ?aP (fun _ hk => hk) ?aF ?aO ?aB ?aS ?aL ?_; (case aP => exact (Kd.FK_slice_mk (Kd.V_reads' (Kd.V_mono (ok' := (fun k_ => ((fun k_ => (P0_ k_ ∨ w.heap.size ≤ k_))) k_ ∧ some k_ ≠ (u7 : Value).ownBlock)) (HO_0.out) (fun k_ hk => ⟨hk.1, hk.2⟩))).2.1 (Kd.V_F (Kd.V_mono (ok' := (fun k_ => ((fun k_ => (P0_ k_ ∨ w.heap.size ≤ k_))) k_ ∧ some k_ ≠ (u7 : Value).ownBlock)) (HO_0.out) (fun k_ hk => ⟨hk.1, hk.2⟩))))); (case aB => exact (by repeat (first | (with_reducible first | exact HB.out | apply below_alloc | apply pw_below_drewN | apply below_drew1) | exact HB.out))); (case aF => exact (fun k_ hk => (.inr (Nat.le_trans (below_size (by repeat (first | (with_reducible first | exact HB.out | apply below_alloc | apply pw_below_drewN | apply below_drew1) | exact HB.out))) hk)))); (case aO => exact (by (with_reducible repeat (first | apply Kd.N_alloc | apply Kd.N_drewN | apply Kd.N_drew)); exact HO_7.out)); (case aS => exact (below_size (by repeat (first | (with_reducible first | exact HB.out | apply below_alloc | apply pw_below_drewN | apply below_drew1) | exact HB.out)))); (case aL => have := LMc6.out; omega); intro v182 w7 ho hb hg hat; rw [← Ny181.out] at ho; have n0_ := Aside0.mk (Kd.V_afterv (ok := (fun k_ => (P0_ k_ ∨ w.heap.size ≤ k_))) (by (with_reducible repeat (first | apply Kd.V_alloc | apply Kd.V_drewN | apply Kd.V_drew)); exact HO_0.out) hg hat); have n1_ := Aside0.mk (hb); have n2_ := Aside0.mk (ho); clear HO_0; clear HB; clear HO_7; have HO_0 := n0_; have HB := n1_; have HO183 := n2_; clear n0_ n1_ n2_; clear ho hb hg hat))
          go_roundg k1
          case measure => have := HK1.out; omega
          case rel => exact ⟨(y181), (wrap64 (x8_1 + 1)), (by first | rfl | (simp; done) | (simp [*]; done)), H', ⟨by have := HK1.out; omega⟩, ⟨by (with_reducible repeat (first | apply Kd.V_alloc | apply Kd.V_drewN | apply Kd.V_drew)); exact HO_0.out⟩, ⟨by (with_reducible repeat (first | apply Kd.N_alloc | apply Kd.N_drewN | apply Kd.N_drew)); exact HO183.out⟩, ⟨by repeat (first | (with_reducible first | exact HB.out | apply below_alloc | apply pw_below_drewN | apply below_drew1) | exact HB.out)⟩⟩
        · rw [if_neg c6] at H
          exact absurd H (by simp)
      · rw [if_neg c5] at H
        have c5b0 : decide (x8_1 < (wrap64 (1 + (Int.tmod (wrap64 (a1)) 16)))) = false := decide_eq_false c5
        clear c5
        have HC8 := Aside0.mk H
        clear H
        go_upto_region 8 with (fail)
        go_cut [38] (fun v38 wc => ∃ (kq : Nat) (x38_7 : Bool), v38 = .bool x38_7 ∧ Aside0 (sennitlaw20_TableSame.j1 kq l0 t180 (wrap64 (1 + (Int.tmod (wrap64 (a1)) 16))) x7_1 x38_7 = some r) ∧ Aside0 (kq ≤ k1) ∧ Aside0 (Kd.V Kd.string 9 wc w.heap.size (fun k_ => (P0_ k_ ∨ w.heap.size ≤ k_) ∧ some k_ ≠ (u7 : Value).ownBlock) (.slice A0 l0.length c0) l0) ∧ Aside0 (Kd.N (Kd.slice 9 Kd.string) 34 wc w.heap.size (fun k_ => (P0_ k_ ∨ w.heap.size ≤ k_)) u7 x7_1) ∧ Aside0 (Below w.heap.size w wc))
        case first =>
          have H := HC8.out
          clear HC8
          replace H := Option.bind_eq_some_iff.mp H
          obtain ⟨t184, A90, H⟩ := H
          replace H : (if t184 = true then ((sennitref01_May.f k1 l0).bind fun t185 => (sennitlaw20_TableSame.j1 k1 l0 t180 (wrap64 (1 + (Int.tmod (wrap64 (a1)) 16))) x7_1 (!t185))) else (sennitlaw20_TableSame.j1 k1 l0 t180 (wrap64 (1 + (Int.tmod (wrap64 (a1)) 16))) x7_1 true)) = some r := H
          have A9 := Aside0.mk A90
          clear A90
          by_cases c10 : t184 = true
          · subst c10
            have H1 : ((sennitref01_May.f k1 l0).bind fun t185 => (sennitlaw20_TableSame.j1 k1 l0 t180 (wrap64 (1 + (Int.tmod (wrap64 (a1)) 16))) x7_1 (!t185))) = some r := by rw [if_pos rfl] at H; exact H
            clear H
            have H := H1
            clear H1
            replace H := Option.bind_eq_some_iff.mp H
            obtain ⟨t185, A110, H⟩ := H
            replace H : (sennitlaw20_TableSame.j1 k1 l0 t180 (wrap64 (1 + (Int.tmod (wrap64 (a1)) 16))) x7_1 (!t185)) = some r := H
            have A11 := Aside0.mk A110
            clear A110
            have H' := Aside0.mk H
            clear H
            go_wp2_with (first | ((with_reducible refine gate_callee (f := 22) rfl ?_); refine goesL_ (some 32) rfl rfl Try.func22 (by kernel_rfl) rfl #[.slice A0 l0.length c0, .int .i64 16] rfl (by (try simp only [List.map_toArray, List.map_cons, List.map_nil]); first | done | rfl | (simp only [List.length_drop, List.length_take]; rfl)) ?_; (with_reducible refine (sennitref01_Few.calls k1 _ _ l0 16 true _ ?side1 ?side2 A9.out).mono ?_); (case side1 => repeat (first | exact (Kd.V_reads' HO_0.out).2.2 | (with_reducible refine Kd.C_alloc ?_ _) | (with_reducible refine Kd.C_drewN ?_ _) | (with_reducible refine Kd.C_drew ?_))); (case side2 => exact (Kd.V_reads' HO_0.out).2.1); rintro e w' ⟨rfl, ⟨nd, rfl⟩⟩; refine ⟨_, rfl, ?_⟩) | (go_at_call 37; (with_reducible refine (sennitref01_May.calls k1 _ _ l0 t185 _ ?side1 ?side2 A11.out).mono ?_); (case side1 => repeat (first | exact (Kd.V_reads' HO_0.out).2.2 | (with_reducible refine Kd.C_alloc ?_ _) | (with_reducible refine Kd.C_drewN ?_ _) | (with_reducible refine Kd.C_drew ?_))); (case side2 => exact (Kd.V_reads' HO_0.out).2.1); rintro e w' ⟨rfl, ⟨nd, rfl⟩⟩))
            go_meet
            case rel => exact ⟨_, (!t185), (by first | rfl | (simp; done) | (simp [*]; done)), H', ⟨by have := HK1.out; first | omega | exact Nat.le_refl _⟩, ⟨by (with_reducible repeat (first | apply Kd.V_alloc | apply Kd.V_drewN | apply Kd.V_drew)); exact HO_0.out⟩, ⟨by (with_reducible repeat (first | apply Kd.N_alloc | apply Kd.N_drewN | apply Kd.N_drew)); exact HO_7.out⟩, ⟨by repeat (first | (with_reducible first | exact HB.out | apply below_alloc | apply pw_below_drewN | apply below_drew1) | exact HB.out)⟩⟩
          · replace c10 := Bool.eq_false_iff.mpr c10
            subst c10
            have H1 : (sennitlaw20_TableSame.j1 k1 l0 t180 (wrap64 (1 + (Int.tmod (wrap64 (a1)) 16))) x7_1 true) = some r := by rw [if_neg (show ¬ (false = true) by decide)] at H; exact H
            clear H
            have H := H1
            clear H1
            have H' := Aside0.mk H
            clear H
            go_wp2_with (first | ((with_reducible refine gate_callee (f := 22) rfl ?_); refine goesL_ (some 32) rfl rfl Try.func22 (by kernel_rfl) rfl #[.slice A0 l0.length c0, .int .i64 16] rfl (by (try simp only [List.map_toArray, List.map_cons, List.map_nil]); first | done | rfl | (simp only [List.length_drop, List.length_take]; rfl)) ?_; (with_reducible refine (sennitref01_Few.calls k1 _ _ l0 16 false _ ?side1 ?side2 A9.out).mono ?_); (case side1 => repeat (first | exact (Kd.V_reads' HO_0.out).2.2 | (with_reducible refine Kd.C_alloc ?_ _) | (with_reducible refine Kd.C_drewN ?_ _) | (with_reducible refine Kd.C_drew ?_))); (case side2 => exact (Kd.V_reads' HO_0.out).2.1); rintro e w' ⟨rfl, ⟨nd, rfl⟩⟩; refine ⟨_, rfl, ?_⟩))
            go_meet
            case rel => exact ⟨_, (true), (by first | rfl | (simp; done) | (simp [*]; done)), H', ⟨by have := HK1.out; first | omega | exact Nat.le_refl _⟩, ⟨by (with_reducible repeat (first | apply Kd.V_alloc | apply Kd.V_drewN | apply Kd.V_drew)); exact HO_0.out⟩, ⟨by (with_reducible repeat (first | apply Kd.N_alloc | apply Kd.N_drewN | apply Kd.N_drew)); exact HO_7.out⟩, ⟨by repeat (first | (with_reducible first | exact HB.out | apply below_alloc | apply pw_below_drewN | apply below_drew1) | exact HB.out)⟩⟩
        case rest =>
          clear HC8
          try clear c1
          try clear c2
          try clear p2
          try clear c5
          try clear c5b0
          try clear c6
          try clear p6
          try clear c10
          try clear p2
          obtain ⟨kq, x38_7, rfl, HA, HJ7, HO_0, HO_7, HB⟩ := hcut
          cases kq with
          | zero => exact absurd HA.out (by simp [sennitlaw20_TableSame.j1])
          | succ kj7 =>
            have H := HA.out
            clear HA
            simp only [sennitlaw20_TableSame.j1] at H
            by_cases c12 : x38_7 = true
            · subst c12
              have H1 : (some t180) = some r := by rw [if_pos rfl] at H; exact H
              clear H
              have H := H1
              clear H1
              obtain rfl := Option.some.inj H
              go_wp2
              go_ret
              exact ⟨by first | rfl | (simp [errW_none, errW_some] <;> rfl) | (simp [*, errW_none, errW_some] <;> rfl), by repeat (first | (with_reducible first | exact HB.out | apply below_alloc | apply pw_below_drewN | apply below_drew1) | exact HB.out)⟩
            · replace c12 := Bool.eq_false_iff.mpr c12
              subst c12
              have H1 : ((table_Table.f l0 x7_1).bind fun bt186 => ((table_Table.f ([] : List ByteArray) x7_1).bind fun bt190 => (if 0 ≤ (wrap64 (1 + (Int.tmod (wrap64 (a1)) 16))) then (if ((wrap64 (1 + (Int.tmod (wrap64 (a1)) 16))) : Int).toNat ≤ 11728124029610 then ((table_Table.f l0 (List.replicate ((wrap64 (1 + (Int.tmod (wrap64 (a1)) 16))) : Int).toNat [])).bind fun bt197 => (if (bt186.1.length : Int) = (l0.length : Int) then (if (bt190.1.length : Int) = (l0.length : Int) then (sennitlaw20_TableSame.j2 kj7 t180 (wrap64 (1 + (Int.tmod (wrap64 (a1)) 16))) bt186.1 bt186.2 bt190.1 bt190.2 bt197.1 bt197.2 ((bt197.1.length : Int) != (l0.length : Int))) else (sennitlaw20_TableSame.j2 kj7 t180 (wrap64 (1 + (Int.tmod (wrap64 (a1)) 16))) bt186.1 bt186.2 bt190.1 bt190.2 bt197.1 bt197.2 true)) else (sennitlaw20_TableSame.j2 kj7 t180 (wrap64 (1 + (Int.tmod (wrap64 (a1)) 16))) bt186.1 bt186.2 bt190.1 bt190.2 bt197.1 bt197.2 true))) else (none)) else (none)))) = some r := by rw [if_neg (show ¬ (false = true) by decide)] at H; exact H
              clear H
              have H := H1
              clear H1
              replace H := Option.bind_eq_some_iff.mp H
              obtain ⟨⟨t186, t187⟩, A130, H⟩ := H
              replace H : ((table_Table.f ([] : List ByteArray) x7_1).bind fun bt190 => (if 0 ≤ (wrap64 (1 + (Int.tmod (wrap64 (a1)) 16))) then (if ((wrap64 (1 + (Int.tmod (wrap64 (a1)) 16))) : Int).toNat ≤ 11728124029610 then ((table_Table.f l0 (List.replicate ((wrap64 (1 + (Int.tmod (wrap64 (a1)) 16))) : Int).toNat [])).bind fun bt197 => (if (t186.length : Int) = (l0.length : Int) then (if (bt190.1.length : Int) = (l0.length : Int) then (sennitlaw20_TableSame.j2 kj7 t180 (wrap64 (1 + (Int.tmod (wrap64 (a1)) 16))) t186 t187 bt190.1 bt190.2 bt197.1 bt197.2 ((bt197.1.length : Int) != (l0.length : Int))) else (sennitlaw20_TableSame.j2 kj7 t180 (wrap64 (1 + (Int.tmod (wrap64 (a1)) 16))) t186 t187 bt190.1 bt190.2 bt197.1 bt197.2 true)) else (sennitlaw20_TableSame.j2 kj7 t180 (wrap64 (1 + (Int.tmod (wrap64 (a1)) 16))) t186 t187 bt190.1 bt190.2 bt197.1 bt197.2 true))) else (none)) else (none))) = some r := H
              have A13 := Aside0.mk A130
              clear A130
              replace H := Option.bind_eq_some_iff.mp H
              obtain ⟨⟨t190, t191⟩, A140, H⟩ := H
              replace H : (if 0 ≤ (wrap64 (1 + (Int.tmod (wrap64 (a1)) 16))) then (if ((wrap64 (1 + (Int.tmod (wrap64 (a1)) 16))) : Int).toNat ≤ 11728124029610 then ((table_Table.f l0 (List.replicate ((wrap64 (1 + (Int.tmod (wrap64 (a1)) 16))) : Int).toNat [])).bind fun bt197 => (if (t186.length : Int) = (l0.length : Int) then (if (t190.length : Int) = (l0.length : Int) then (sennitlaw20_TableSame.j2 kj7 t180 (wrap64 (1 + (Int.tmod (wrap64 (a1)) 16))) t186 t187 t190 t191 bt197.1 bt197.2 ((bt197.1.length : Int) != (l0.length : Int))) else (sennitlaw20_TableSame.j2 kj7 t180 (wrap64 (1 + (Int.tmod (wrap64 (a1)) 16))) t186 t187 t190 t191 bt197.1 bt197.2 true)) else (sennitlaw20_TableSame.j2 kj7 t180 (wrap64 (1 + (Int.tmod (wrap64 (a1)) 16))) t186 t187 t190 t191 bt197.1 bt197.2 true))) else (none)) else (none)) = some r := H
              have A14 := Aside0.mk A140
              clear A140
              obtain ⟨ji15, hji15⟩ : ∃ j_ : Int, (wrap64 (1 + (Int.tmod (wrap64 (a1)) 16))) = j_ := ⟨_, rfl⟩
              replace H : (if 0 ≤ (ji15) then (if ((ji15) : Int).toNat ≤ 11728124029610 then ((table_Table.f l0 (List.replicate ((ji15) : Int).toNat [])).bind fun bt197 => (if (t186.length : Int) = (l0.length : Int) then (if (t190.length : Int) = (l0.length : Int) then (sennitlaw20_TableSame.j2 kj7 t180 (ji15) t186 t187 t190 t191 bt197.1 bt197.2 ((bt197.1.length : Int) != (l0.length : Int))) else (sennitlaw20_TableSame.j2 kj7 t180 (ji15) t186 t187 t190 t191 bt197.1 bt197.2 true)) else (sennitlaw20_TableSame.j2 kj7 t180 (ji15) t186 t187 t190 t191 bt197.1 bt197.2 true))) else (none)) else (none)) = some r := by first | (rw [hji15] at H; exact H) | (simp only [hji15] at H ⊢; exact H)
              (try rw [hji15] at c5b0)
              (try rw [hji15] at A13)
              (try rw [hji15] at A14)
              have hji15w : (IntKind.i64.wrap (1 + (Int.tmod (wrap64 (a1)) 16))) = ji15 := (i64_w _).trans hji15
              by_cases c16 : 0 ≤ (ji15)
              · rw [if_pos c16] at H
                have c16b0 := eq_true c16
                have c16b1 : decide (0 ≤ (ji15)) = true := decide_eq_true c16
                clear c16
                by_cases c17 : ((ji15) : Int).toNat ≤ 11728124029610
                · rw [if_pos c17] at H
                  have c17b0 := eq_true c17
                  have c17b1 : decide (((ji15) : Int).toNat ≤ 11728124029610) = true := decide_eq_true c17
                  clear c17
                  obtain ⟨y194, hy194⟩ : ∃ y_ : List (List ByteArray), y_ = (List.replicate ((ji15) : Int).toNat []) := ⟨_, rfl⟩
                  replace H : ((table_Table.f l0 y194).bind fun bt197 => (if (t186.length : Int) = (l0.length : Int) then (if (t190.length : Int) = (l0.length : Int) then (sennitlaw20_TableSame.j2 kj7 t180 (ji15) t186 t187 t190 t191 bt197.1 bt197.2 ((bt197.1.length : Int) != (l0.length : Int))) else (sennitlaw20_TableSame.j2 kj7 t180 (ji15) t186 t187 t190 t191 bt197.1 bt197.2 true)) else (sennitlaw20_TableSame.j2 kj7 t180 (ji15) t186 t187 t190 t191 bt197.1 bt197.2 true))) = some r := by first | (rw [hy194]; with_reducible exact H) | (have H2_ := (Option.bind_some _ _).symm.trans H; rw [hy194]; with_reducible exact H2_) | (have H2_ := (Option.bind_some _ _).symm.trans H; with_reducible exact H2_) | with_reducible exact H | (rw [hy194]; exact H) | exact H
                  have Ny194 := Aside0.mk hy194
                  clear hy194
                  replace H := Option.bind_eq_some_iff.mp H
                  obtain ⟨⟨t197, t198⟩, A180, H⟩ := H
                  replace H : (if (t186.length : Int) = (l0.length : Int) then (if (t190.length : Int) = (l0.length : Int) then (sennitlaw20_TableSame.j2 kj7 t180 (ji15) t186 t187 t190 t191 t197 t198 ((t197.length : Int) != (l0.length : Int))) else (sennitlaw20_TableSame.j2 kj7 t180 (ji15) t186 t187 t190 t191 t197 t198 true)) else (sennitlaw20_TableSame.j2 kj7 t180 (ji15) t186 t187 t190 t191 t197 t198 true)) = some r := H
                  have A18 := Aside0.mk A180
                  clear A180
                  have HC19 := Aside0.mk H
                  clear H
                  obtain ⟨Ao20, co20, eo20⟩ := Kd.N_slice HO_7.out
                  subst eo20
                  go_upto_region 13 with (first | ((with_reducible refine gate_callee (f := 25) rfl ?_); refine goesL_ (some 43) rfl rfl Try.func25 (by kernel_rfl) rfl #[.slice A0 l0.length c0, .slice Ao20 x7_1.length co20] rfl (by (try simp only [List.map_toArray, List.map_cons, List.map_nil]); first | done | rfl | (simp only [List.length_drop, List.length_take]; rfl)) ?_; (with_reducible refine (table_Table.calls _ _ l0 _ _ x7_1 t186 t187 _ ?side1 ?side2 ?side3 ?side4 A13.out).mono ?_); (case side1 => repeat (first | exact (Kd.V_reads' HO_0.out).2.2 | (with_reducible refine Kd.C_alloc ?_ _) | (with_reducible refine Kd.C_drewN ?_ _) | (with_reducible refine Kd.C_drew ?_))); (case side2 => exact (Kd.V_reads' HO_0.out).2.1); (case side3 => repeat (first | exact (Kd.N_reads' HO_7.out).2.2 | (with_reducible refine Kd.C_alloc ?_ _) | (with_reducible refine Kd.C_drewN ?_ _) | (with_reducible refine Kd.C_drew ?_))); (case side4 => exact (Kd.N_reads' HO_7.out).2.1); rintro e w21 ⟨v188, rfl, ho0, hb⟩; refine ⟨_, rfl, ?_⟩; have n0_ := Aside0.mk (Kd.V_elder' (by (with_reducible repeat (first | apply Kd.V_alloc | apply Kd.V_drewN | apply Kd.V_drew)); exact HO_0.out) (Kd.R_base ho0) hb); have n1_ := Aside0.mk (Kd.N_elder' (by (with_reducible repeat (first | apply Kd.N_alloc | apply Kd.N_drewN | apply Kd.N_drew)); exact HO_7.out) (Kd.R_base ho0) hb); have n2_ := Aside0.mk (Kd.R_lower (Kd.R_newM (M := fun k_ => (w.heap.size ≤ k_)) ho0 (below_size (by repeat (first | (with_reducible first | exact HB.out | apply below_alloc | apply pw_below_drewN | apply below_drew1) | exact HB.out))) (fun k_ h_ => h_)) (below_size (by repeat (first | (with_reducible first | exact HB.out | apply below_alloc | apply pw_below_drewN | apply below_drew1) | exact HB.out)))); have n3_ := Aside0.mk (below_step (by repeat (first | (with_reducible first | exact HB.out | apply below_alloc | apply pw_below_drewN | apply below_drew1) | exact HB.out)) hb); clear HO_0; clear HO_7; clear HB; have HO_0 := n0_; have HO_7 := n1_; have HO189 := n2_; have HB := n3_; clear n0_ n1_ n2_ n3_; (try clear hb); (try clear hb2); (try clear hk); (try clear hi); (try clear ho0)) | ((with_reducible refine gate_callee (f := 25) rfl ?_); refine goesL_ (some 48) rfl rfl Try.func25 (by kernel_rfl) rfl #[.slice none 0 0, .slice Ao20 x7_1.length co20] rfl (by (try simp only [List.map_toArray, List.map_cons, List.map_nil]); first | done | rfl | (simp only [List.length_drop, List.length_take]; rfl)) ?_; (refine (table_Table.calls _ _ ([] : List ByteArray) _ _ x7_1 t190 t191 _ ?side1 ?side2 ?side3 ?side4 A14.out).mono ?_); (case side1 => exact Kd.C_nil _ _); (case side2 => exact Nat.le_refl _); (case side3 => repeat (first | exact (Kd.N_reads' HO_7.out).2.2 | (with_reducible refine Kd.C_alloc ?_ _) | (with_reducible refine Kd.C_drewN ?_ _) | (with_reducible refine Kd.C_drew ?_))); (case side4 => exact (Kd.N_reads' HO_7.out).2.1); rintro e w22 ⟨v192, rfl, ho0, hb⟩; refine ⟨_, rfl, ?_⟩; have n0_ := Aside0.mk (Kd.V_elder' (by (with_reducible repeat (first | apply Kd.V_alloc | apply Kd.V_drewN | apply Kd.V_drew)); exact HO_0.out) (Kd.R_base ho0) hb); have n1_ := Aside0.mk (Kd.N_elder' (by (with_reducible repeat (first | apply Kd.N_alloc | apply Kd.N_drewN | apply Kd.N_drew)); exact HO_7.out) (Kd.R_base ho0) hb); have n2_ := Aside0.mk (Kd.R_elder' (by (with_reducible repeat (first | apply Kd.R_alloc | apply Kd.R_drewN | apply Kd.R_drew)); exact HO189.out) (Kd.R_base ho0) hb); have n3_ := Aside0.mk (Kd.R_lower (Kd.R_new' (Kd.R_newM (M := fun k_ => (w.heap.size ≤ k_)) ho0 (below_size (by repeat (first | (with_reducible first | exact HB.out | apply below_alloc | apply pw_below_drewN | apply below_drew1) | exact HB.out))) (fun k_ h_ => h_)) (Kd.R_lt (by (with_reducible repeat (first | apply Kd.R_alloc | apply Kd.R_drewN | apply Kd.R_drew)); exact HO189.out))) (below_size (by repeat (first | (with_reducible first | exact HB.out | apply below_alloc | apply pw_below_drewN | apply below_drew1) | exact HB.out)))); have n4_ := Aside0.mk (below_step (by repeat (first | (with_reducible first | exact HB.out | apply below_alloc | apply pw_below_drewN | apply below_drew1) | exact HB.out)) hb); clear HO_0; clear HO_7; clear HO189; clear HB; have HO_0 := n0_; have HO_7 := n1_; have HO189 := n2_; have HO193 := n3_; have HB := n4_; clear n0_ n1_ n2_ n3_ n4_; (try clear hb); (try clear hb2); (try clear hk); (try clear hi); (try clear ho0)) | ((with_reducible refine gate_dst (N := 54) rfl ?_); (try (refine gate_guard (by rfl) ?_; dsimp only)); refine Kd.N_make (Kd.slice 9 Kd.string) _ 34 rfl (N' := 54) rfl 22 _ _ rfl (ji15) rfl rfl Try.underlying22 (.slice none 0 0) 24 info34 rfl (by decide) (by omega) [] (ok := fun k_ => w22.heap.size ≤ k_) (okp := fun _ => False) (Kd.FK_slice_mk (Nat.le_refl _) (Kd.F_nil _ _ _)) (fun _ hk => hk.elim) (Nat.le_refl _) (of_decide_eq_true (by first | (with_reducible assumption) | assumption)) (Nat.le_trans (Nat.mul_le_mul_right _ (of_decide_eq_true (by first | (with_reducible assumption) | assumption) : (ji15).toNat ≤ 11728124029610)) (by omega)) (Below.refl _ _) (Nat.le_refl _) ?_; intro v195 w23 ho24 hb hg_ hnew_; clear hg_ hnew_; (first | rw [← Ny194.out] at ho24 | (simp only [Int.reduceToNat] at ho24; rw [← Ny194.out] at ho24)); have n0_ := Aside0.mk (Kd.V_elder' (by (with_reducible repeat (first | apply Kd.V_alloc | apply Kd.V_drewN | apply Kd.V_drew)); exact HO_0.out) (Kd.N_base ho24) hb); have n1_ := Aside0.mk (Kd.N_elder' (by (with_reducible repeat (first | apply Kd.N_alloc | apply Kd.N_drewN | apply Kd.N_drew)); exact HO_7.out) (Kd.N_base ho24) hb); have n2_ := Aside0.mk (Kd.R_below (by (with_reducible repeat (first | apply Kd.R_alloc | apply Kd.R_drewN | apply Kd.R_drew)); exact HO189.out) hb); have n3_ := Aside0.mk (Kd.R_below (by (with_reducible repeat (first | apply Kd.R_alloc | apply Kd.R_drewN | apply Kd.R_drew)); exact HO193.out) hb); have n4_ := Aside0.mk (Kd.N_lower (Kd.N_mono (ok' := fun k_ => (P0_ k_ ∨ w.heap.size ≤ k_) ∧ some k_ ≠ (.slice Ao20 x7_1.length co20 : Value).ownBlock ∧ some k_ ≠ (v188 : Value).ownBlock ∧ some k_ ≠ (v192 : Value).ownBlock) ho24 (fun k_ hk_ => ⟨(.inr (Nat.le_trans (below_size (by repeat (first | (with_reducible first | exact HB.out | apply below_alloc | apply pw_below_drewN | apply below_drew1) | exact HB.out))) hk_)), (Kd.fresh' (Kd.N_lt (by (with_reducible repeat (first | apply Kd.N_alloc | apply Kd.N_drewN | apply Kd.N_drew)); exact HO_7.out)) k_ hk_), (Kd.fresh' (Kd.R_lt (by (with_reducible repeat (first | apply Kd.R_alloc | apply Kd.R_drewN | apply Kd.R_drew)); exact HO189.out)) k_ hk_), (Kd.fresh' (Kd.R_lt (by (with_reducible repeat (first | apply Kd.R_alloc | apply Kd.R_drewN | apply Kd.R_drew)); exact HO193.out)) k_ hk_)⟩)) (below_size (by repeat (first | (with_reducible first | exact HB.out | apply below_alloc | apply pw_below_drewN | apply below_drew1) | exact HB.out)))); have n5_ := Aside0.mk (below_step (by repeat (first | (with_reducible first | exact HB.out | apply below_alloc | apply pw_below_drewN | apply below_drew1) | exact HB.out)) hb); clear HO_0; clear HO_7; clear HO189; clear HO193; clear HB; have HO_0 := n0_; have HO_7 := n1_; have HO189 := n2_; have HO193 := n3_; have HO196 := n4_; have HB := n5_; clear n0_ n1_ n2_ n3_ n4_ n5_; clear hb ho24; obtain ⟨Ao25, co25, eo25⟩ := Kd.N_slice HO196.out; subst eo25) | ((with_reducible refine gate_callee (f := 25) rfl ?_); refine goesL_ (some 55) rfl rfl Try.func25 (by kernel_rfl) rfl #[.slice A0 l0.length c0, .slice Ao25 y194.length co25] rfl (by (try simp only [List.map_toArray, List.map_cons, List.map_nil]); first | done | rfl | (simp only [List.length_drop, List.length_take]; rfl)) ?_; (with_reducible refine (table_Table.calls _ _ l0 _ _ y194 t197 t198 _ ?side1 ?side2 ?side3 ?side4 A18.out).mono ?_); (case side1 => repeat (first | exact (Kd.V_reads' HO_0.out).2.2 | (with_reducible refine Kd.C_alloc ?_ _) | (with_reducible refine Kd.C_drewN ?_ _) | (with_reducible refine Kd.C_drew ?_))); (case side2 => exact (Kd.V_reads' HO_0.out).2.1); (case side3 => repeat (first | exact (Kd.N_reads' HO196.out).2.2 | (with_reducible refine Kd.C_alloc ?_ _) | (with_reducible refine Kd.C_drewN ?_ _) | (with_reducible refine Kd.C_drew ?_))); (case side4 => exact (Kd.N_reads' HO196.out).2.1); rintro e w26 ⟨v199, rfl, ho0, hb⟩; refine ⟨_, rfl, ?_⟩; have n0_ := Aside0.mk (Kd.V_elder' (by (with_reducible repeat (first | apply Kd.V_alloc | apply Kd.V_drewN | apply Kd.V_drew)); exact HO_0.out) (Kd.R_base ho0) hb); have n1_ := Aside0.mk (Kd.N_elder' (by (with_reducible repeat (first | apply Kd.N_alloc | apply Kd.N_drewN | apply Kd.N_drew)); exact HO_7.out) (Kd.R_base ho0) hb); have n2_ := Aside0.mk (Kd.R_elder' (by (with_reducible repeat (first | apply Kd.R_alloc | apply Kd.R_drewN | apply Kd.R_drew)); exact HO189.out) (Kd.R_base ho0) hb); have n3_ := Aside0.mk (Kd.R_elder' (by (with_reducible repeat (first | apply Kd.R_alloc | apply Kd.R_drewN | apply Kd.R_drew)); exact HO193.out) (Kd.R_base ho0) hb); have n4_ := Aside0.mk (Kd.N_elder' (by (with_reducible repeat (first | apply Kd.N_alloc | apply Kd.N_drewN | apply Kd.N_drew)); exact HO196.out) (Kd.R_base ho0) hb); have n5_ := Aside0.mk (Kd.R_lower (Kd.R_new' (Kd.R_new' (Kd.R_newM (M := fun k_ => (w.heap.size ≤ k_)) ho0 (below_size (by repeat (first | (with_reducible first | exact HB.out | apply below_alloc | apply pw_below_drewN | apply below_drew1) | exact HB.out))) (fun k_ h_ => h_)) (Kd.R_lt (by (with_reducible repeat (first | apply Kd.R_alloc | apply Kd.R_drewN | apply Kd.R_drew)); exact HO189.out))) (Kd.R_lt (by (with_reducible repeat (first | apply Kd.R_alloc | apply Kd.R_drewN | apply Kd.R_drew)); exact HO193.out))) (below_size (by repeat (first | (with_reducible first | exact HB.out | apply below_alloc | apply pw_below_drewN | apply below_drew1) | exact HB.out)))); have n6_ := Aside0.mk (below_step (by repeat (first | (with_reducible first | exact HB.out | apply below_alloc | apply pw_below_drewN | apply below_drew1) | exact HB.out)) hb); clear HO_0; clear HO_7; clear HO189; clear HO193; clear HO196; clear HB; have HO_0 := n0_; have HO_7 := n1_; have HO189 := n2_; have HO193 := n3_; have HO196 := n4_; have HO200 := n5_; have HB := n6_; clear n0_ n1_ n2_ n3_ n4_ n5_ n6_; (try clear hb); (try clear hb2); (try clear hk); (try clear hi); (try clear ho0)))
                  (try simp only [Act.put, List.setIfInBounds_toArray, List.set_cons_zero, List.set_cons_succ])
                  go_cut [76] (fun v76 wc => ∃ (kq : Nat) (x76_18 : Bool), v76 = .bool x76_18 ∧ Aside0 (sennitlaw20_TableSame.j2 kq t180 (ji15) t186 t187 t190 t191 t197 t198 x76_18 = some r) ∧ Aside0 (kq ≤ kj7) ∧ Aside0 (Kd.R k37 37 wc w.heap.size (fun k_ => (w.heap.size ≤ k_) ∧ some k_ ≠ (v192 : Value).ownBlock ∧ some k_ ≠ (v199 : Value).ownBlock) v188 t186) ∧ Aside0 (Kd.R k37 37 wc w.heap.size (fun k_ => (w.heap.size ≤ k_) ∧ some k_ ≠ (v188 : Value).ownBlock ∧ some k_ ≠ (v199 : Value).ownBlock) v192 t190) ∧ Aside0 (Kd.R k37 37 wc w.heap.size (fun k_ => (w.heap.size ≤ k_) ∧ some k_ ≠ (v188 : Value).ownBlock ∧ some k_ ≠ (v192 : Value).ownBlock) v199 t197) ∧ Aside0 (Below w.heap.size w wc))
                  case first =>
                    have H := HC19.out
                    clear HC19
                    by_cases c27 : (t186.length : Int) = (l0.length : Int)
                    · rw [if_pos c27] at H
                      have c27b0 : ((t186.length : Int) == (l0.length : Int)) = true := beq_iff_eq.mpr c27
                      have c27b1 : ((t186.length : Int) != (l0.length : Int)) = false := bne_eq_false_iff_eq.mpr c27
                      have c27b2 : (t186.length == l0.length) = true := by first | simpa using c27 | (simp at c27 ⊢; omega)
                      clear c27
                      (first | rw [c27b0] | (simp only [i64_w, i32_w]; rw [c27b0]) | skip)
                      by_cases c28 : (t190.length : Int) = (l0.length : Int)
                      · rw [if_pos c28] at H
                        have c28b0 : ((t190.length : Int) == (l0.length : Int)) = true := beq_iff_eq.mpr c28
                        have c28b1 : ((t190.length : Int) != (l0.length : Int)) = false := bne_eq_false_iff_eq.mpr c28
                        have c28b2 : (t190.length == l0.length) = true := by first | simpa using c28 | (simp at c28 ⊢; omega)
                        clear c28
                        have H' := Aside0.mk H
                        clear H
                        obtain ⟨Ao29, co29, eo29⟩ := Kd.R_slice HO189.out
                        subst eo29
                        obtain ⟨Ao30, co30, eo30⟩ := Kd.R_slice HO193.out
                        subst eo30
                        obtain ⟨Ao31, co31, eo31⟩ := Kd.R_slice HO200.out
                        subst eo31
                        go_wp2
                        go_meet
                        case rel => exact ⟨_, (((t197.length : Int) != (l0.length : Int))), (by first | rfl | (simp; done) | (simp [*]; done)), H', ⟨by have := HK1.out; have := HJ7.out; first | omega | exact Nat.le_refl _⟩, ⟨by (with_reducible repeat (first | apply Kd.R_alloc | apply Kd.R_drewN | apply Kd.R_drew)); exact Kd.R_mono HO189.out (fun _ hk => ⟨hk.1.1.1, ⟨hk.1.2, hk.2⟩⟩)⟩, ⟨by (with_reducible repeat (first | apply Kd.R_alloc | apply Kd.R_drewN | apply Kd.R_drew)); exact Kd.R_mono HO193.out (fun _ hk => ⟨hk.1.1.1, ⟨hk.1.2, hk.2⟩⟩)⟩, ⟨by (with_reducible repeat (first | apply Kd.R_alloc | apply Kd.R_drewN | apply Kd.R_drew)); exact Kd.R_mono HO200.out (fun _ hk => ⟨hk.1.1.1, ⟨hk.1.2, hk.2⟩⟩)⟩, ⟨by repeat (first | (with_reducible first | exact HB.out | apply below_alloc | apply pw_below_drewN | apply below_drew1) | exact HB.out)⟩⟩
                      · rw [if_neg c28] at H
                        have c28b0 : ((t190.length : Int) == (l0.length : Int)) = false := beq_eq_false_iff_ne.mpr c28
                        have c28b1 : ((t190.length : Int) != (l0.length : Int)) = true := bne_iff_ne.mpr c28
                        have c28b2 : (t190.length == l0.length) = false := by first | simpa using c28 | (simp at c28 ⊢; omega)
                        have H' := Aside0.mk H
                        clear H
                        obtain ⟨Ao32, co32, eo32⟩ := Kd.R_slice HO189.out
                        subst eo32
                        obtain ⟨Ao33, co33, eo33⟩ := Kd.R_slice HO193.out
                        subst eo33
                        go_wp2
                        go_meet
                        case rel => exact ⟨_, (true), (by first | rfl | (simp; done) | (simp [*]; done)), H', ⟨by have := HK1.out; have := HJ7.out; first | omega | exact Nat.le_refl _⟩, ⟨by (with_reducible repeat (first | apply Kd.R_alloc | apply Kd.R_drewN | apply Kd.R_drew)); exact Kd.R_mono HO189.out (fun _ hk => ⟨hk.1.1.1, ⟨hk.1.2, hk.2⟩⟩)⟩, ⟨by (with_reducible repeat (first | apply Kd.R_alloc | apply Kd.R_drewN | apply Kd.R_drew)); exact Kd.R_mono HO193.out (fun _ hk => ⟨hk.1.1.1, ⟨hk.1.2, hk.2⟩⟩)⟩, ⟨by (with_reducible repeat (first | apply Kd.R_alloc | apply Kd.R_drewN | apply Kd.R_drew)); exact Kd.R_mono HO200.out (fun _ hk => ⟨hk.1.1.1, ⟨hk.1.2, hk.2⟩⟩)⟩, ⟨by repeat (first | (with_reducible first | exact HB.out | apply below_alloc | apply pw_below_drewN | apply below_drew1) | exact HB.out)⟩⟩
                    · rw [if_neg c27] at H
                      have c27b0 : ((t186.length : Int) == (l0.length : Int)) = false := beq_eq_false_iff_ne.mpr c27
                      have c27b1 : ((t186.length : Int) != (l0.length : Int)) = true := bne_iff_ne.mpr c27
                      have c27b2 : (t186.length == l0.length) = false := by first | simpa using c27 | (simp at c27 ⊢; omega)
                      (first | rw [c27b0] | (simp only [i64_w, i32_w]; rw [c27b0]) | skip)
                      have H' := Aside0.mk H
                      clear H
                      obtain ⟨Ao34, co34, eo34⟩ := Kd.R_slice HO189.out
                      subst eo34
                      go_wp2
                      go_meet
                      case rel => exact ⟨_, (true), (by first | rfl | (simp; done) | (simp [*]; done)), H', ⟨by have := HK1.out; have := HJ7.out; first | omega | exact Nat.le_refl _⟩, ⟨by (with_reducible repeat (first | apply Kd.R_alloc | apply Kd.R_drewN | apply Kd.R_drew)); exact Kd.R_mono HO189.out (fun _ hk => ⟨hk.1.1.1, ⟨hk.1.2, hk.2⟩⟩)⟩, ⟨by (with_reducible repeat (first | apply Kd.R_alloc | apply Kd.R_drewN | apply Kd.R_drew)); exact Kd.R_mono HO193.out (fun _ hk => ⟨hk.1.1.1, ⟨hk.1.2, hk.2⟩⟩)⟩, ⟨by (with_reducible repeat (first | apply Kd.R_alloc | apply Kd.R_drewN | apply Kd.R_drew)); exact Kd.R_mono HO200.out (fun _ hk => ⟨hk.1.1.1, ⟨hk.1.2, hk.2⟩⟩)⟩, ⟨by repeat (first | (with_reducible first | exact HB.out | apply below_alloc | apply pw_below_drewN | apply below_drew1) | exact HB.out)⟩⟩
                  case rest =>
                    clear HC19
                    try clear c1
                    try clear c2
                    try clear p2
                    try clear c5
                    try clear c5b0
                    try clear c6
                    try clear p6
                    try clear c10
                    try clear c12
                    try clear c13
                    try clear c16
                    try clear c16b0
                    try clear c16b1
                    try clear c17
                    try clear c17b0
                    try clear c17b1
                    try clear c22
                    try clear c23
                    try clear c25
                    try clear c27
                    try clear c27b0
                    try clear c27b1
                    try clear c27b2
                    try clear c28
                    try clear c28b0
                    try clear c28b1
                    try clear c28b2
                    try clear p2
                    try clear p6
                    obtain ⟨kq, x76_18, rfl, HA, HJ18, HO_9, HO_11, HO_13, HB⟩ := hcut
                    cases kq with
                    | zero => exact absurd HA.out (by simp [sennitlaw20_TableSame.j2])
                    | succ kj18 =>
                      have H := HA.out
                      clear HA
                      simp only [sennitlaw20_TableSame.j2] at H
                      by_cases c35 : x76_18 = true
                      · subst c35
                        have H1 : (some false) = some r := by rw [if_pos rfl] at H; exact H
                        clear H
                        have H := H1
                        clear H1
                        obtain rfl := Option.some.inj H
                        go_wp2
                        go_ret
                        exact ⟨by first | rfl | (simp [errW_none, errW_some] <;> rfl) | (simp only [← hji15]; first | rfl | (simp [errW_none, errW_some] <;> rfl)) | (simp [*, errW_none, errW_some] <;> rfl), by repeat (first | (with_reducible first | exact HB.out | apply below_alloc | apply pw_below_drewN | apply below_drew1) | exact HB.out)⟩
                      · replace c35 := Bool.eq_false_iff.mpr c35
                        subst c35
                        have H1 : (sennitlaw20_TableSame.l1 kj18 t180 (ji15) t186 t187 t190 t191 t197 t198 0) = some r := by rw [if_neg (show ¬ (false = true) by decide)] at H; exact H
                        clear H
                        have H := H1
                        clear H1
                        have H' := Aside0.mk H
                        clear H
                        go_wp2
                        go_loopg [15] kj18 (fun kq v15 w' => ∃ (x15_4 : Int), v15 = .int .i64 x15_4 ∧ Aside0 (sennitlaw20_TableSame.l1 kq t180 (ji15) t186 t187 t190 t191 t197 t198 x15_4 = some r) ∧ Aside0 (kq ≤ kj18) ∧ Aside0 (Kd.R k37 37 w' w.heap.size (fun k_ => (w.heap.size ≤ k_) ∧ some k_ ≠ (v192 : Value).ownBlock ∧ some k_ ≠ (v199 : Value).ownBlock) v188 t186) ∧ Aside0 (Kd.R k37 37 w' w.heap.size (fun k_ => (w.heap.size ≤ k_) ∧ some k_ ≠ (v188 : Value).ownBlock ∧ some k_ ≠ (v199 : Value).ownBlock) v192 t190) ∧ Aside0 (Kd.R k37 37 w' w.heap.size (fun k_ => (w.heap.size ≤ k_) ∧ some k_ ≠ (v188 : Value).ownBlock ∧ some k_ ≠ (v192 : Value).ownBlock) v199 t197) ∧ Aside0 (Below w.heap.size w w'))
                        case atStart => exact ⟨(0), (by first | rfl | (simp; done) | (simp [*]; done)), H', ⟨Nat.le_refl _⟩, ⟨by (with_reducible repeat (first | apply Kd.R_alloc | apply Kd.R_drewN | apply Kd.R_drew)); exact HO_9.out⟩, ⟨by (with_reducible repeat (first | apply Kd.R_alloc | apply Kd.R_drewN | apply Kd.R_drew)); exact HO_11.out⟩, ⟨by (with_reducible repeat (first | apply Kd.R_alloc | apply Kd.R_drewN | apply Kd.R_drew)); exact HO_13.out⟩, ⟨by repeat (first | (with_reducible first | exact HB.out | apply below_alloc | apply pw_below_drewN | apply below_drew1) | exact HB.out)⟩⟩
                        case round =>
                          clear H'
                          try clear c1
                          try clear c2
                          try clear p2
                          try clear c3
                          try clear c5
                          try clear c5b0
                          try clear c6
                          try clear p6
                          try clear c10
                          try clear c12
                          try clear c13
                          try clear c16
                          try clear c16b0
                          try clear c16b1
                          try clear c17
                          try clear c17b0
                          try clear c17b1
                          try clear c22
                          try clear c23
                          try clear c25
                          try clear c27
                          try clear c27b0
                          try clear c27b1
                          try clear c27b2
                          try clear c28
                          try clear c28b0
                          try clear c28b1
                          try clear c28b2
                          try clear c35
                          try clear p2
                          try clear p6
                          obtain ⟨x15_4, rfl, HA, HK4, HO_9, HO_11, HO_13, HB⟩ := hrel
                          cases gk with
                          | zero => exact absurd HA.out (by simp [sennitlaw20_TableSame.l1])
                          | succ k4 =>
                            have H := HA.out
                            clear HA
                            simp only [sennitlaw20_TableSame.l1] at H
                            by_cases c36 : x15_4 < (t186.length : Int)
                            · rw [if_pos c36] at H
                              have c36b0 : decide (x15_4 < (t186.length : Int)) = true := decide_eq_true c36
                              clear c36
                              have H' := Aside0.mk H
                              clear H
                              obtain ⟨Ao37, co37, eo37⟩ := Kd.R_slice HO_9.out
                              subst eo37
                              go_wp2
                              go_loopg [16] k4 (fun kq v16 w' => ∃ (x16_5 : Int), v16 = .int .i64 x16_5 ∧ Aside0 (sennitlaw20_TableSame.l2 kq t180 (ji15) t186 t187 t190 t191 t197 t198 x15_4 x16_5 = some r) ∧ Aside0 (kq ≤ k4) ∧ Aside0 (Kd.R k37 37 w' w.heap.size (fun k_ => (w.heap.size ≤ k_) ∧ some k_ ≠ (v192 : Value).ownBlock ∧ some k_ ≠ (v199 : Value).ownBlock) (.slice Ao37 t186.length co37) t186) ∧ Aside0 (Kd.R k37 37 w' w.heap.size (fun k_ => (w.heap.size ≤ k_) ∧ some k_ ≠ ((.slice Ao37 t186.length co37) : Value).ownBlock ∧ some k_ ≠ (v199 : Value).ownBlock) v192 t190) ∧ Aside0 (Kd.R k37 37 w' w.heap.size (fun k_ => (w.heap.size ≤ k_) ∧ some k_ ≠ ((.slice Ao37 t186.length co37) : Value).ownBlock ∧ some k_ ≠ (v192 : Value).ownBlock) v199 t197) ∧ Aside0 (Below w.heap.size w w'))
                              case atStart => exact ⟨(0), (by first | rfl | (simp; done) | (simp [*]; done)), H', ⟨Nat.le_refl _⟩, ⟨by (with_reducible repeat (first | apply Kd.R_alloc | apply Kd.R_drewN | apply Kd.R_drew)); exact HO_9.out⟩, ⟨by (with_reducible repeat (first | apply Kd.R_alloc | apply Kd.R_drewN | apply Kd.R_drew)); exact HO_11.out⟩, ⟨by (with_reducible repeat (first | apply Kd.R_alloc | apply Kd.R_drewN | apply Kd.R_drew)); exact HO_13.out⟩, ⟨by repeat (first | (with_reducible first | exact HB.out | apply below_alloc | apply pw_below_drewN | apply below_drew1) | exact HB.out)⟩⟩
                              case round =>
                                clear H'
                                try clear c1
                                try clear c2
                                try clear p2
                                try clear c3
                                try clear c5
                                try clear c5b0
                                try clear c6
                                try clear p6
                                try clear c10
                                try clear c12
                                try clear c13
                                try clear c16
                                try clear c16b0
                                try clear c16b1
                                try clear c17
                                try clear c17b0
                                try clear c17b1
                                try clear c22
                                try clear c23
                                try clear c25
                                try clear c27
                                try clear c27b0
                                try clear c27b1
                                try clear c27b2
                                try clear c28
                                try clear c28b0
                                try clear c28b1
                                try clear c28b2
                                try clear c35
                                try clear c36
                                try clear c36b0
                                try clear p2
                                try clear p6
                                obtain ⟨x16_5, rfl, HA, HK5, HO_9, HO_11, HO_13, HB⟩ := hrel
                                cases gk with
                                | zero => exact absurd HA.out (by simp [sennitlaw20_TableSame.l2])
                                | succ k5 =>
                                  have H := HA.out
                                  clear HA
                                  simp only [sennitlaw20_TableSame.l2] at H
                                  by_cases c38 : x16_5 < (ji15)
                                  · rw [if_pos c38] at H
                                    have c38b0 : decide (x16_5 < (ji15)) = true := decide_eq_true c38
                                    clear c38
                                    by_cases c39 : 0 ≤ x15_4
                                    · rw [if_pos c39] at H
                                      have c39b0 : decide (0 ≤ x15_4) = true := decide_eq_true c39
                                      clear c39
                                      by_cases c40 : x15_4 < (t186.length : Int)
                                      · rw [if_pos c40] at H
                                        have c40b0 : decide (x15_4 < (t186.length : Int)) = true := decide_eq_true c40
                                        clear c40
                                        by_cases c41 : (((rd_T37 t186 x15_4).f0).size : Int) = (ji15)
                                        · rw [if_pos c41] at H
                                          have c41b0 : ((((rd_T37 t186 x15_4).f0).size : Int) == (ji15)) = true := beq_iff_eq.mpr c41
                                          have c41b1 : ((((rd_T37 t186 x15_4).f0).size : Int) != (ji15)) = false := bne_eq_false_iff_eq.mpr c41
                                          clear c41
                                          by_cases c42 : x15_4 < (t190.length : Int)
                                          · rw [if_pos c42] at H
                                            have c42b0 : decide (x15_4 < (t190.length : Int)) = true := decide_eq_true c42
                                            clear c42
                                            by_cases c43 : (((rd_T37 t190 x15_4).f0).size : Int) = (ji15)
                                            · rw [if_pos c43] at H
                                              have c43b0 : ((((rd_T37 t190 x15_4).f0).size : Int) == (ji15)) = true := beq_iff_eq.mpr c43
                                              have c43b1 : ((((rd_T37 t190 x15_4).f0).size : Int) != (ji15)) = false := bne_eq_false_iff_eq.mpr c43
                                              clear c43
                                              by_cases c44 : x15_4 < (t197.length : Int)
                                              · rw [if_pos c44] at H
                                                have c44b0 : decide (x15_4 < (t197.length : Int)) = true := decide_eq_true c44
                                                clear c44
                                                by_cases c45 : (((rd_T37 t197 x15_4).f0).size : Int) = (ji15)
                                                · rw [if_pos c45] at H
                                                  have c45b0 : ((((rd_T37 t197 x15_4).f0).size : Int) == (ji15)) = true := beq_iff_eq.mpr c45
                                                  have c45b1 : ((((rd_T37 t197 x15_4).f0).size : Int) != (ji15)) = false := bne_eq_false_iff_eq.mpr c45
                                                  clear c45
                                                  by_cases c46 : 0 ≤ x16_5
                                                  · rw [if_pos c46] at H
                                                    have c46b0 : decide (0 ≤ x16_5) = true := decide_eq_true c46
                                                    clear c46
                                                    by_cases c47 : x16_5 < (((rd_T37 t186 x15_4).f0).size : Int)
                                                    · rw [if_pos c47] at H
                                                      have c47b0 : decide (x16_5 < (((rd_T37 t186 x15_4).f0).size : Int)) = true := decide_eq_true c47
                                                      clear c47
                                                      by_cases c49 : (bt ((rd_T37 t186 x15_4).f0) x16_5) = 32
                                                      · rw [if_pos c49] at H
                                                        have c49b0 : ((bt ((rd_T37 t186 x15_4).f0) x16_5) == 32) = true := beq_iff_eq.mpr c49
                                                        have c49b1 : ((bt ((rd_T37 t186 x15_4).f0) x16_5) != 32) = false := bne_eq_false_iff_eq.mpr c49
                                                        clear c49
                                                        by_cases c50 : x16_5 < (((rd_T37 t190 x15_4).f0).size : Int)
                                                        · rw [if_pos c50] at H
                                                          have c50b0 : decide (x16_5 < (((rd_T37 t190 x15_4).f0).size : Int)) = true := decide_eq_true c50
                                                          clear c50
                                                          by_cases c52 : (bt ((rd_T37 t190 x15_4).f0) x16_5) = 45
                                                          · rw [if_pos c52] at H
                                                            have c52b0 : ((bt ((rd_T37 t190 x15_4).f0) x16_5) == 45) = true := beq_iff_eq.mpr c52
                                                            have c52b1 : ((bt ((rd_T37 t190 x15_4).f0) x16_5) != 45) = false := bne_eq_false_iff_eq.mpr c52
                                                            clear c52
                                                            by_cases c53 : x16_5 < (((rd_T37 t197 x15_4).f0).size : Int)
                                                            · rw [if_pos c53] at H
                                                              have c53b0 : decide (x16_5 < (((rd_T37 t197 x15_4).f0).size : Int)) = true := decide_eq_true c53
                                                              clear c53
                                                              by_cases c55 : (bt ((rd_T37 t197 x15_4).f0) x16_5) = 43
                                                              · rw [if_pos c55] at H
                                                                have c55b0 : ((bt ((rd_T37 t197 x15_4).f0) x16_5) == 43) = true := beq_iff_eq.mpr c55
                                                                have c55b1 : ((bt ((rd_T37 t197 x15_4).f0) x16_5) != 43) = false := bne_eq_false_iff_eq.mpr c55
                                                                clear c55
                                                                have H' := Aside0.mk H
                                                                clear H
                                                                have p201 : 0 ≤ (x15_4 : Int) := of_decide_eq_true (by first | (with_reducible assumption) | assumption)
                                                                have q201 : x15_4 < (t186.length : Int) := of_decide_eq_true (by first | (with_reducible assumption) | assumption)
                                                                obtain ⟨ad201, e201, hx201_0, hx201_1⟩ := at_T37 (Kd.R_reads' HO_9.out).2.2 x15_4 p201 q201
                                                                cases e201
                                                                replace p201 := eq_true p201
                                                                replace q201 := eq_true q201
                                                                obtain ⟨Ao56, co56, eo56⟩ := Kd.R_slice HO_11.out
                                                                subst eo56
                                                                have p202 : 0 ≤ (x15_4 : Int) := of_decide_eq_true (by first | (with_reducible assumption) | assumption)
                                                                have q202 : x15_4 < (t190.length : Int) := of_decide_eq_true (by first | (with_reducible assumption) | assumption)
                                                                obtain ⟨ad202, e202, hx202_0, hx202_1⟩ := at_T37 (Kd.R_reads' HO_11.out).2.2 x15_4 p202 q202
                                                                cases e202
                                                                replace p202 := eq_true p202
                                                                replace q202 := eq_true q202
                                                                obtain ⟨Ao57, co57, eo57⟩ := Kd.R_slice HO_13.out
                                                                subst eo57
                                                                have p203 : 0 ≤ (x15_4 : Int) := of_decide_eq_true (by first | (with_reducible assumption) | assumption)
                                                                have q203 : x15_4 < (t197.length : Int) := of_decide_eq_true (by first | (with_reducible assumption) | assumption)
                                                                obtain ⟨ad203, e203, hx203_0, hx203_1⟩ := at_T37 (Kd.R_reads' HO_13.out).2.2 x15_4 p203 q203
                                                                cases e203
                                                                replace p203 := eq_true p203
                                                                replace q203 := eq_true q203
                                                                have p204 : 0 ≤ (x15_4 : Int) := of_decide_eq_true (by first | (with_reducible assumption) | assumption)
                                                                have q204 : x15_4 < (t186.length : Int) := of_decide_eq_true (by first | (with_reducible assumption) | assumption)
                                                                obtain ⟨ad204, e204, hx204_0, hx204_1⟩ := at_T37 (Kd.R_reads' HO_9.out).2.2 x15_4 p204 q204
                                                                obtain rfl : ad201 = ad204 := (by injection e204)
                                                                replace p204 := eq_true p204
                                                                replace q204 := eq_true q204
                                                                have p48 : 0 ≤ (x16_5 : Int) := of_decide_eq_true (by first | (with_reducible assumption) | assumption)
                                                                have q48 : x16_5 < (((rd_T37 t186 x15_4).f0).size : Int) := of_decide_eq_true (by first | (with_reducible assumption) | assumption)
                                                                have hx48 := bt_at ((rd_T37 t186 x15_4).f0) x16_5
                                                                replace p48 := eq_true p48
                                                                replace q48 := eq_true q48
                                                                have p205 : 0 ≤ (x15_4 : Int) := of_decide_eq_true (by first | (with_reducible assumption) | assumption)
                                                                have q205 : x15_4 < (t190.length : Int) := of_decide_eq_true (by first | (with_reducible assumption) | assumption)
                                                                obtain ⟨ad205, e205, hx205_0, hx205_1⟩ := at_T37 (Kd.R_reads' HO_11.out).2.2 x15_4 p205 q205
                                                                obtain rfl : ad202 = ad205 := (by injection e205)
                                                                replace p205 := eq_true p205
                                                                replace q205 := eq_true q205
                                                                have p51 : 0 ≤ (x16_5 : Int) := of_decide_eq_true (by first | (with_reducible assumption) | assumption)
                                                                have q51 : x16_5 < (((rd_T37 t190 x15_4).f0).size : Int) := of_decide_eq_true (by first | (with_reducible assumption) | assumption)
                                                                have hx51 := bt_at ((rd_T37 t190 x15_4).f0) x16_5
                                                                replace p51 := eq_true p51
                                                                replace q51 := eq_true q51
                                                                have p206 : 0 ≤ (x15_4 : Int) := of_decide_eq_true (by first | (with_reducible assumption) | assumption)
                                                                have q206 : x15_4 < (t197.length : Int) := of_decide_eq_true (by first | (with_reducible assumption) | assumption)
                                                                obtain ⟨ad206, e206, hx206_0, hx206_1⟩ := at_T37 (Kd.R_reads' HO_13.out).2.2 x15_4 p206 q206
                                                                obtain rfl : ad203 = ad206 := (by injection e206)
                                                                replace p206 := eq_true p206
                                                                replace q206 := eq_true q206
                                                                have p54 : 0 ≤ (x16_5 : Int) := of_decide_eq_true (by first | (with_reducible assumption) | assumption)
                                                                have q54 : x16_5 < (((rd_T37 t197 x15_4).f0).size : Int) := of_decide_eq_true (by first | (with_reducible assumption) | assumption)
                                                                have hx54 := bt_at ((rd_T37 t197 x15_4).f0) x16_5
                                                                replace p54 := eq_true p54
                                                                replace q54 := eq_true q54
                                                                go_wp2
                                                                go_roundg k5
                                                                case measure => have := HK1.out; have := HJ7.out; have := HJ18.out; have := HK4.out; have := HK5.out; omega
                                                                case rel => exact ⟨(wrap64 (x16_5 + 1)), (by first | rfl | (simp; done) | (simp [*]; done)), H', ⟨by have := HK1.out; have := HJ7.out; have := HJ18.out; have := HK4.out; have := HK5.out; omega⟩, ⟨by (with_reducible repeat (first | apply Kd.R_alloc | apply Kd.R_drewN | apply Kd.R_drew)); exact HO_9.out⟩, ⟨by (with_reducible repeat (first | apply Kd.R_alloc | apply Kd.R_drewN | apply Kd.R_drew)); exact HO_11.out⟩, ⟨by (with_reducible repeat (first | apply Kd.R_alloc | apply Kd.R_drewN | apply Kd.R_drew)); exact HO_13.out⟩, ⟨by repeat (first | (with_reducible first | exact HB.out | apply below_alloc | apply pw_below_drewN | apply below_drew1) | exact HB.out)⟩⟩
                                                              · rw [if_neg c55] at H
                                                                have c55b0 : ((bt ((rd_T37 t197 x15_4).f0) x16_5) == 43) = false := beq_eq_false_iff_ne.mpr c55
                                                                have c55b1 : ((bt ((rd_T37 t197 x15_4).f0) x16_5) != 43) = true := bne_iff_ne.mpr c55
                                                                obtain rfl := Option.some.inj H
                                                                have p201 : 0 ≤ (x15_4 : Int) := of_decide_eq_true (by first | (with_reducible assumption) | assumption)
                                                                have q201 : x15_4 < (t186.length : Int) := of_decide_eq_true (by first | (with_reducible assumption) | assumption)
                                                                obtain ⟨ad201, e201, hx201_0, hx201_1⟩ := at_T37 (Kd.R_reads' HO_9.out).2.2 x15_4 p201 q201
                                                                cases e201
                                                                replace p201 := eq_true p201
                                                                replace q201 := eq_true q201
                                                                obtain ⟨Ao58, co58, eo58⟩ := Kd.R_slice HO_11.out
                                                                subst eo58
                                                                have p202 : 0 ≤ (x15_4 : Int) := of_decide_eq_true (by first | (with_reducible assumption) | assumption)
                                                                have q202 : x15_4 < (t190.length : Int) := of_decide_eq_true (by first | (with_reducible assumption) | assumption)
                                                                obtain ⟨ad202, e202, hx202_0, hx202_1⟩ := at_T37 (Kd.R_reads' HO_11.out).2.2 x15_4 p202 q202
                                                                cases e202
                                                                replace p202 := eq_true p202
                                                                replace q202 := eq_true q202
                                                                obtain ⟨Ao59, co59, eo59⟩ := Kd.R_slice HO_13.out
                                                                subst eo59
                                                                have p203 : 0 ≤ (x15_4 : Int) := of_decide_eq_true (by first | (with_reducible assumption) | assumption)
                                                                have q203 : x15_4 < (t197.length : Int) := of_decide_eq_true (by first | (with_reducible assumption) | assumption)
                                                                obtain ⟨ad203, e203, hx203_0, hx203_1⟩ := at_T37 (Kd.R_reads' HO_13.out).2.2 x15_4 p203 q203
                                                                cases e203
                                                                replace p203 := eq_true p203
                                                                replace q203 := eq_true q203
                                                                have p204 : 0 ≤ (x15_4 : Int) := of_decide_eq_true (by first | (with_reducible assumption) | assumption)
                                                                have q204 : x15_4 < (t186.length : Int) := of_decide_eq_true (by first | (with_reducible assumption) | assumption)
                                                                obtain ⟨ad204, e204, hx204_0, hx204_1⟩ := at_T37 (Kd.R_reads' HO_9.out).2.2 x15_4 p204 q204
                                                                obtain rfl : ad201 = ad204 := (by injection e204)
                                                                replace p204 := eq_true p204
                                                                replace q204 := eq_true q204
                                                                have p48 : 0 ≤ (x16_5 : Int) := of_decide_eq_true (by first | (with_reducible assumption) | assumption)
                                                                have q48 : x16_5 < (((rd_T37 t186 x15_4).f0).size : Int) := of_decide_eq_true (by first | (with_reducible assumption) | assumption)
                                                                have hx48 := bt_at ((rd_T37 t186 x15_4).f0) x16_5
                                                                replace p48 := eq_true p48
                                                                replace q48 := eq_true q48
                                                                have p205 : 0 ≤ (x15_4 : Int) := of_decide_eq_true (by first | (with_reducible assumption) | assumption)
                                                                have q205 : x15_4 < (t190.length : Int) := of_decide_eq_true (by first | (with_reducible assumption) | assumption)
                                                                obtain ⟨ad205, e205, hx205_0, hx205_1⟩ := at_T37 (Kd.R_reads' HO_11.out).2.2 x15_4 p205 q205
                                                                obtain rfl : ad202 = ad205 := (by injection e205)
                                                                replace p205 := eq_true p205
                                                                replace q205 := eq_true q205
                                                                have p51 : 0 ≤ (x16_5 : Int) := of_decide_eq_true (by first | (with_reducible assumption) | assumption)
                                                                have q51 : x16_5 < (((rd_T37 t190 x15_4).f0).size : Int) := of_decide_eq_true (by first | (with_reducible assumption) | assumption)
                                                                have hx51 := bt_at ((rd_T37 t190 x15_4).f0) x16_5
                                                                replace p51 := eq_true p51
                                                                replace q51 := eq_true q51
                                                                have p206 : 0 ≤ (x15_4 : Int) := of_decide_eq_true (by first | (with_reducible assumption) | assumption)
                                                                have q206 : x15_4 < (t197.length : Int) := of_decide_eq_true (by first | (with_reducible assumption) | assumption)
                                                                obtain ⟨ad206, e206, hx206_0, hx206_1⟩ := at_T37 (Kd.R_reads' HO_13.out).2.2 x15_4 p206 q206
                                                                obtain rfl : ad203 = ad206 := (by injection e206)
                                                                replace p206 := eq_true p206
                                                                replace q206 := eq_true q206
                                                                have p54 : 0 ≤ (x16_5 : Int) := of_decide_eq_true (by first | (with_reducible assumption) | assumption)
                                                                have q54 : x16_5 < (((rd_T37 t197 x15_4).f0).size : Int) := of_decide_eq_true (by first | (with_reducible assumption) | assumption)
                                                                have hx54 := bt_at ((rd_T37 t197 x15_4).f0) x16_5
                                                                replace p54 := eq_true p54
                                                                replace q54 := eq_true q54
                                                                go_wp2
                                                                go_ret
                                                                exact ⟨by first | rfl | (simp [errW_none, errW_some] <;> rfl) | (simp only [← hji15]; first | rfl | (simp [errW_none, errW_some] <;> rfl)) | (simp [*, errW_none, errW_some] <;> rfl), by repeat (first | (with_reducible first | exact HB.out | apply below_alloc | apply pw_below_drewN | apply below_drew1) | exact HB.out)⟩
                                                            · rw [if_neg c53] at H
                                                              exact absurd H (by simp)
                                                          · rw [if_neg c52] at H
                                                            have c52b0 : ((bt ((rd_T37 t190 x15_4).f0) x16_5) == 45) = false := beq_eq_false_iff_ne.mpr c52
                                                            have c52b1 : ((bt ((rd_T37 t190 x15_4).f0) x16_5) != 45) = true := bne_iff_ne.mpr c52
                                                            obtain rfl := Option.some.inj H
                                                            have p201 : 0 ≤ (x15_4 : Int) := of_decide_eq_true (by first | (with_reducible assumption) | assumption)
                                                            have q201 : x15_4 < (t186.length : Int) := of_decide_eq_true (by first | (with_reducible assumption) | assumption)
                                                            obtain ⟨ad201, e201, hx201_0, hx201_1⟩ := at_T37 (Kd.R_reads' HO_9.out).2.2 x15_4 p201 q201
                                                            cases e201
                                                            replace p201 := eq_true p201
                                                            replace q201 := eq_true q201
                                                            obtain ⟨Ao60, co60, eo60⟩ := Kd.R_slice HO_11.out
                                                            subst eo60
                                                            have p202 : 0 ≤ (x15_4 : Int) := of_decide_eq_true (by first | (with_reducible assumption) | assumption)
                                                            have q202 : x15_4 < (t190.length : Int) := of_decide_eq_true (by first | (with_reducible assumption) | assumption)
                                                            obtain ⟨ad202, e202, hx202_0, hx202_1⟩ := at_T37 (Kd.R_reads' HO_11.out).2.2 x15_4 p202 q202
                                                            cases e202
                                                            replace p202 := eq_true p202
                                                            replace q202 := eq_true q202
                                                            obtain ⟨Ao61, co61, eo61⟩ := Kd.R_slice HO_13.out
                                                            subst eo61
                                                            have p203 : 0 ≤ (x15_4 : Int) := of_decide_eq_true (by first | (with_reducible assumption) | assumption)
                                                            have q203 : x15_4 < (t197.length : Int) := of_decide_eq_true (by first | (with_reducible assumption) | assumption)
                                                            obtain ⟨ad203, e203, hx203_0, hx203_1⟩ := at_T37 (Kd.R_reads' HO_13.out).2.2 x15_4 p203 q203
                                                            cases e203
                                                            replace p203 := eq_true p203
                                                            replace q203 := eq_true q203
                                                            have p204 : 0 ≤ (x15_4 : Int) := of_decide_eq_true (by first | (with_reducible assumption) | assumption)
                                                            have q204 : x15_4 < (t186.length : Int) := of_decide_eq_true (by first | (with_reducible assumption) | assumption)
                                                            obtain ⟨ad204, e204, hx204_0, hx204_1⟩ := at_T37 (Kd.R_reads' HO_9.out).2.2 x15_4 p204 q204
                                                            obtain rfl : ad201 = ad204 := (by injection e204)
                                                            replace p204 := eq_true p204
                                                            replace q204 := eq_true q204
                                                            have p48 : 0 ≤ (x16_5 : Int) := of_decide_eq_true (by first | (with_reducible assumption) | assumption)
                                                            have q48 : x16_5 < (((rd_T37 t186 x15_4).f0).size : Int) := of_decide_eq_true (by first | (with_reducible assumption) | assumption)
                                                            have hx48 := bt_at ((rd_T37 t186 x15_4).f0) x16_5
                                                            replace p48 := eq_true p48
                                                            replace q48 := eq_true q48
                                                            have p205 : 0 ≤ (x15_4 : Int) := of_decide_eq_true (by first | (with_reducible assumption) | assumption)
                                                            have q205 : x15_4 < (t190.length : Int) := of_decide_eq_true (by first | (with_reducible assumption) | assumption)
                                                            obtain ⟨ad205, e205, hx205_0, hx205_1⟩ := at_T37 (Kd.R_reads' HO_11.out).2.2 x15_4 p205 q205
                                                            obtain rfl : ad202 = ad205 := (by injection e205)
                                                            replace p205 := eq_true p205
                                                            replace q205 := eq_true q205
                                                            have p51 : 0 ≤ (x16_5 : Int) := of_decide_eq_true (by first | (with_reducible assumption) | assumption)
                                                            have q51 : x16_5 < (((rd_T37 t190 x15_4).f0).size : Int) := of_decide_eq_true (by first | (with_reducible assumption) | assumption)
                                                            have hx51 := bt_at ((rd_T37 t190 x15_4).f0) x16_5
                                                            replace p51 := eq_true p51
                                                            replace q51 := eq_true q51
                                                            go_wp2
                                                            go_ret
                                                            exact ⟨by first | rfl | (simp [errW_none, errW_some] <;> rfl) | (simp only [← hji15]; first | rfl | (simp [errW_none, errW_some] <;> rfl)) | (simp [*, errW_none, errW_some] <;> rfl), by repeat (first | (with_reducible first | exact HB.out | apply below_alloc | apply pw_below_drewN | apply below_drew1) | exact HB.out)⟩
                                                        · rw [if_neg c50] at H
                                                          exact absurd H (by simp)
                                                      · rw [if_neg c49] at H
                                                        have c49b0 : ((bt ((rd_T37 t186 x15_4).f0) x16_5) == 32) = false := beq_eq_false_iff_ne.mpr c49
                                                        have c49b1 : ((bt ((rd_T37 t186 x15_4).f0) x16_5) != 32) = true := bne_iff_ne.mpr c49
                                                        obtain rfl := Option.some.inj H
                                                        have p201 : 0 ≤ (x15_4 : Int) := of_decide_eq_true (by first | (with_reducible assumption) | assumption)
                                                        have q201 : x15_4 < (t186.length : Int) := of_decide_eq_true (by first | (with_reducible assumption) | assumption)
                                                        obtain ⟨ad201, e201, hx201_0, hx201_1⟩ := at_T37 (Kd.R_reads' HO_9.out).2.2 x15_4 p201 q201
                                                        cases e201
                                                        replace p201 := eq_true p201
                                                        replace q201 := eq_true q201
                                                        obtain ⟨Ao62, co62, eo62⟩ := Kd.R_slice HO_11.out
                                                        subst eo62
                                                        have p202 : 0 ≤ (x15_4 : Int) := of_decide_eq_true (by first | (with_reducible assumption) | assumption)
                                                        have q202 : x15_4 < (t190.length : Int) := of_decide_eq_true (by first | (with_reducible assumption) | assumption)
                                                        obtain ⟨ad202, e202, hx202_0, hx202_1⟩ := at_T37 (Kd.R_reads' HO_11.out).2.2 x15_4 p202 q202
                                                        cases e202
                                                        replace p202 := eq_true p202
                                                        replace q202 := eq_true q202
                                                        obtain ⟨Ao63, co63, eo63⟩ := Kd.R_slice HO_13.out
                                                        subst eo63
                                                        have p203 : 0 ≤ (x15_4 : Int) := of_decide_eq_true (by first | (with_reducible assumption) | assumption)
                                                        have q203 : x15_4 < (t197.length : Int) := of_decide_eq_true (by first | (with_reducible assumption) | assumption)
                                                        obtain ⟨ad203, e203, hx203_0, hx203_1⟩ := at_T37 (Kd.R_reads' HO_13.out).2.2 x15_4 p203 q203
                                                        cases e203
                                                        replace p203 := eq_true p203
                                                        replace q203 := eq_true q203
                                                        have p204 : 0 ≤ (x15_4 : Int) := of_decide_eq_true (by first | (with_reducible assumption) | assumption)
                                                        have q204 : x15_4 < (t186.length : Int) := of_decide_eq_true (by first | (with_reducible assumption) | assumption)
                                                        obtain ⟨ad204, e204, hx204_0, hx204_1⟩ := at_T37 (Kd.R_reads' HO_9.out).2.2 x15_4 p204 q204
                                                        obtain rfl : ad201 = ad204 := (by injection e204)
                                                        replace p204 := eq_true p204
                                                        replace q204 := eq_true q204
                                                        have p48 : 0 ≤ (x16_5 : Int) := of_decide_eq_true (by first | (with_reducible assumption) | assumption)
                                                        have q48 : x16_5 < (((rd_T37 t186 x15_4).f0).size : Int) := of_decide_eq_true (by first | (with_reducible assumption) | assumption)
                                                        have hx48 := bt_at ((rd_T37 t186 x15_4).f0) x16_5
                                                        replace p48 := eq_true p48
                                                        replace q48 := eq_true q48
                                                        go_wp2
                                                        go_ret
                                                        exact ⟨by first | rfl | (simp [errW_none, errW_some] <;> rfl) | (simp only [← hji15]; first | rfl | (simp [errW_none, errW_some] <;> rfl)) | (simp [*, errW_none, errW_some] <;> rfl), by repeat (first | (with_reducible first | exact HB.out | apply below_alloc | apply pw_below_drewN | apply below_drew1) | exact HB.out)⟩
                                                    · rw [if_neg c47] at H
                                                      exact absurd H (by simp)
                                                  · rw [if_neg c46] at H
                                                    exact absurd H (by simp)
                                                · rw [if_neg c45] at H
                                                  have c45b0 : ((((rd_T37 t197 x15_4).f0).size : Int) == (ji15)) = false := beq_eq_false_iff_ne.mpr c45
                                                  have c45b1 : ((((rd_T37 t197 x15_4).f0).size : Int) != (ji15)) = true := bne_iff_ne.mpr c45
                                                  obtain rfl := Option.some.inj H
                                                  have p201 : 0 ≤ (x15_4 : Int) := of_decide_eq_true (by first | (with_reducible assumption) | assumption)
                                                  have q201 : x15_4 < (t186.length : Int) := of_decide_eq_true (by first | (with_reducible assumption) | assumption)
                                                  obtain ⟨ad201, e201, hx201_0, hx201_1⟩ := at_T37 (Kd.R_reads' HO_9.out).2.2 x15_4 p201 q201
                                                  cases e201
                                                  replace p201 := eq_true p201
                                                  replace q201 := eq_true q201
                                                  obtain ⟨Ao64, co64, eo64⟩ := Kd.R_slice HO_11.out
                                                  subst eo64
                                                  have p202 : 0 ≤ (x15_4 : Int) := of_decide_eq_true (by first | (with_reducible assumption) | assumption)
                                                  have q202 : x15_4 < (t190.length : Int) := of_decide_eq_true (by first | (with_reducible assumption) | assumption)
                                                  obtain ⟨ad202, e202, hx202_0, hx202_1⟩ := at_T37 (Kd.R_reads' HO_11.out).2.2 x15_4 p202 q202
                                                  cases e202
                                                  replace p202 := eq_true p202
                                                  replace q202 := eq_true q202
                                                  obtain ⟨Ao65, co65, eo65⟩ := Kd.R_slice HO_13.out
                                                  subst eo65
                                                  have p203 : 0 ≤ (x15_4 : Int) := of_decide_eq_true (by first | (with_reducible assumption) | assumption)
                                                  have q203 : x15_4 < (t197.length : Int) := of_decide_eq_true (by first | (with_reducible assumption) | assumption)
                                                  obtain ⟨ad203, e203, hx203_0, hx203_1⟩ := at_T37 (Kd.R_reads' HO_13.out).2.2 x15_4 p203 q203
                                                  cases e203
                                                  replace p203 := eq_true p203
                                                  replace q203 := eq_true q203
                                                  go_wp2
                                                  go_ret
                                                  exact ⟨by first | rfl | (simp [errW_none, errW_some] <;> rfl) | (simp only [← hji15]; first | rfl | (simp [errW_none, errW_some] <;> rfl)) | (simp [*, errW_none, errW_some] <;> rfl), by repeat (first | (with_reducible first | exact HB.out | apply below_alloc | apply pw_below_drewN | apply below_drew1) | exact HB.out)⟩
                                              · rw [if_neg c44] at H
                                                exact absurd H (by simp)
                                            · rw [if_neg c43] at H
                                              have c43b0 : ((((rd_T37 t190 x15_4).f0).size : Int) == (ji15)) = false := beq_eq_false_iff_ne.mpr c43
                                              have c43b1 : ((((rd_T37 t190 x15_4).f0).size : Int) != (ji15)) = true := bne_iff_ne.mpr c43
                                              obtain rfl := Option.some.inj H
                                              have p201 : 0 ≤ (x15_4 : Int) := of_decide_eq_true (by first | (with_reducible assumption) | assumption)
                                              have q201 : x15_4 < (t186.length : Int) := of_decide_eq_true (by first | (with_reducible assumption) | assumption)
                                              obtain ⟨ad201, e201, hx201_0, hx201_1⟩ := at_T37 (Kd.R_reads' HO_9.out).2.2 x15_4 p201 q201
                                              cases e201
                                              replace p201 := eq_true p201
                                              replace q201 := eq_true q201
                                              obtain ⟨Ao66, co66, eo66⟩ := Kd.R_slice HO_11.out
                                              subst eo66
                                              have p202 : 0 ≤ (x15_4 : Int) := of_decide_eq_true (by first | (with_reducible assumption) | assumption)
                                              have q202 : x15_4 < (t190.length : Int) := of_decide_eq_true (by first | (with_reducible assumption) | assumption)
                                              obtain ⟨ad202, e202, hx202_0, hx202_1⟩ := at_T37 (Kd.R_reads' HO_11.out).2.2 x15_4 p202 q202
                                              cases e202
                                              replace p202 := eq_true p202
                                              replace q202 := eq_true q202
                                              go_wp2
                                              go_ret
                                              exact ⟨by first | rfl | (simp [errW_none, errW_some] <;> rfl) | (simp only [← hji15]; first | rfl | (simp [errW_none, errW_some] <;> rfl)) | (simp [*, errW_none, errW_some] <;> rfl), by repeat (first | (with_reducible first | exact HB.out | apply below_alloc | apply pw_below_drewN | apply below_drew1) | exact HB.out)⟩
                                          · rw [if_neg c42] at H
                                            exact absurd H (by simp)
                                        · rw [if_neg c41] at H
                                          have c41b0 : ((((rd_T37 t186 x15_4).f0).size : Int) == (ji15)) = false := beq_eq_false_iff_ne.mpr c41
                                          have c41b1 : ((((rd_T37 t186 x15_4).f0).size : Int) != (ji15)) = true := bne_iff_ne.mpr c41
                                          obtain rfl := Option.some.inj H
                                          have p201 : 0 ≤ (x15_4 : Int) := of_decide_eq_true (by first | (with_reducible assumption) | assumption)
                                          have q201 : x15_4 < (t186.length : Int) := of_decide_eq_true (by first | (with_reducible assumption) | assumption)
                                          obtain ⟨ad201, e201, hx201_0, hx201_1⟩ := at_T37 (Kd.R_reads' HO_9.out).2.2 x15_4 p201 q201
                                          cases e201
                                          replace p201 := eq_true p201
                                          replace q201 := eq_true q201
                                          go_wp2
                                          go_ret
                                          exact ⟨by first | rfl | (simp [errW_none, errW_some] <;> rfl) | (simp only [← hji15]; first | rfl | (simp [errW_none, errW_some] <;> rfl)) | (simp [*, errW_none, errW_some] <;> rfl), by repeat (first | (with_reducible first | exact HB.out | apply below_alloc | apply pw_below_drewN | apply below_drew1) | exact HB.out)⟩
                                      · rw [if_neg c40] at H
                                        exact absurd H (by simp)
                                    · rw [if_neg c39] at H
                                      exact absurd H (by simp)
                                  · rw [if_neg c38] at H
                                    have c38b0 : decide (x16_5 < (ji15)) = false := decide_eq_false c38
                                    clear c38
                                    have H' := Aside0.mk H
                                    clear H
                                    go_wp2
                                    go_roundg k5
                                    case measure => have := HK1.out; have := HJ7.out; have := HJ18.out; have := HK4.out; have := HK5.out; omega
                                    case rel => exact ⟨(wrap64 (x15_4 + 1)), (by first | rfl | (simp; done) | (simp [*]; done)), H', ⟨by have := HK1.out; have := HJ7.out; have := HJ18.out; have := HK4.out; have := HK5.out; omega⟩, ⟨by (with_reducible repeat (first | apply Kd.R_alloc | apply Kd.R_drewN | apply Kd.R_drew)); exact HO_9.out⟩, ⟨by (with_reducible repeat (first | apply Kd.R_alloc | apply Kd.R_drewN | apply Kd.R_drew)); exact HO_11.out⟩, ⟨by (with_reducible repeat (first | apply Kd.R_alloc | apply Kd.R_drewN | apply Kd.R_drew)); exact HO_13.out⟩, ⟨by repeat (first | (with_reducible first | exact HB.out | apply below_alloc | apply pw_below_drewN | apply below_drew1) | exact HB.out)⟩⟩
                            · rw [if_neg c36] at H
                              have c36b0 : decide (x15_4 < (t186.length : Int)) = false := decide_eq_false c36
                              clear c36
                              by_cases c67 : t180 = true
                              · subst c67
                                have H1 : (if t187 = 0 then (if t191 = 0 then (some (t198 == 0)) else (some false)) else (some false)) = some r := by rw [if_pos rfl] at H; exact H
                                clear H
                                have H := H1
                                clear H1
                                by_cases c68 : t187 = 0
                                · rw [if_pos c68] at H
                                  have c68b0 : (t187 == 0) = true := beq_iff_eq.mpr c68
                                  have c68b1 : (t187 != 0) = false := bne_eq_false_iff_eq.mpr c68
                                  clear c68
                                  by_cases c69 : t191 = 0
                                  · rw [if_pos c69] at H
                                    have c69b0 : (t191 == 0) = true := beq_iff_eq.mpr c69
                                    have c69b1 : (t191 != 0) = false := bne_eq_false_iff_eq.mpr c69
                                    clear c69
                                    obtain rfl := Option.some.inj H
                                    obtain ⟨Ao70, co70, eo70⟩ := Kd.R_slice HO_9.out
                                    subst eo70
                                    go_wp2
                                    go_ret
                                    exact ⟨by first | rfl | (simp [errW_none, errW_some] <;> rfl) | (simp only [← hji15]; first | rfl | (simp [errW_none, errW_some] <;> rfl)) | (simp [*, errW_none, errW_some] <;> rfl), by repeat (first | (with_reducible first | exact HB.out | apply below_alloc | apply pw_below_drewN | apply below_drew1) | exact HB.out)⟩
                                  · rw [if_neg c69] at H
                                    have c69b0 : (t191 == 0) = false := beq_eq_false_iff_ne.mpr c69
                                    have c69b1 : (t191 != 0) = true := bne_iff_ne.mpr c69
                                    obtain rfl := Option.some.inj H
                                    obtain ⟨Ao71, co71, eo71⟩ := Kd.R_slice HO_9.out
                                    subst eo71
                                    go_wp2
                                    go_ret
                                    exact ⟨by first | rfl | (simp [errW_none, errW_some] <;> rfl) | (simp only [← hji15]; first | rfl | (simp [errW_none, errW_some] <;> rfl)) | (simp [*, errW_none, errW_some] <;> rfl), by repeat (first | (with_reducible first | exact HB.out | apply below_alloc | apply pw_below_drewN | apply below_drew1) | exact HB.out)⟩
                                · rw [if_neg c68] at H
                                  have c68b0 : (t187 == 0) = false := beq_eq_false_iff_ne.mpr c68
                                  have c68b1 : (t187 != 0) = true := bne_iff_ne.mpr c68
                                  obtain rfl := Option.some.inj H
                                  obtain ⟨Ao72, co72, eo72⟩ := Kd.R_slice HO_9.out
                                  subst eo72
                                  go_wp2
                                  go_ret
                                  exact ⟨by first | rfl | (simp [errW_none, errW_some] <;> rfl) | (simp only [← hji15]; first | rfl | (simp [errW_none, errW_some] <;> rfl)) | (simp [*, errW_none, errW_some] <;> rfl), by repeat (first | (with_reducible first | exact HB.out | apply below_alloc | apply pw_below_drewN | apply below_drew1) | exact HB.out)⟩
                              · replace c67 := Bool.eq_false_iff.mpr c67
                                subst c67
                                have H1 : (some false) = some r := by rw [if_neg (show ¬ (false = true) by decide)] at H; exact H
                                clear H
                                have H := H1
                                clear H1
                                obtain rfl := Option.some.inj H
                                obtain ⟨Ao73, co73, eo73⟩ := Kd.R_slice HO_9.out
                                subst eo73
                                go_wp2
                                go_ret
                                exact ⟨by first | rfl | (simp [errW_none, errW_some] <;> rfl) | (simp only [← hji15]; first | rfl | (simp [errW_none, errW_some] <;> rfl)) | (simp [*, errW_none, errW_some] <;> rfl), by repeat (first | (with_reducible first | exact HB.out | apply below_alloc | apply pw_below_drewN | apply below_drew1) | exact HB.out)⟩
                · rw [if_neg c17] at H
                  exact absurd H (by simp)
              · rw [if_neg c16] at H
                exact absurd H (by simp)

end Go.Proofs.Ytnlekganlliikaa.X
-- part XTabMath
namespace Go.Proofs.Ytnlekganlliikaa.X
open Go.RowKit Go.Proofs.YtnlekganlliikaaW.PrintWords Go.Proofs.YtnlekganlliikaaW.PrintLast Go.Proofs.YtnlekganlliikaaW.PrintMore
set_option linter.unusedVariables false
set_option linter.unusedSimpArgs false
/-- Where the next pairing is. -/
def nextM : List Int → Nat → Nat
  | [], n => n
  | m :: t, n => if 0 ≤ m then m.toNat else nextM t n
/-- Where the lines ahead of a line begin, if any may be there. -/
def fromM (ms : List Int) : Nat → Option Nat
  | 0 => some 0
  | q + 1 => if 0 ≤ ms.getD q (-1) then some ((ms.getD q (-1)).toNat + 1) else none
/-- The parent's lines ahead of a line of the result. -/
def segL (p : List ByteArray) (ms : List Int) (q : Nat) : List ByteArray :=
  match fromM ms q with
  | none => []
  | some a => (p.take (nextM (ms.drop q) p.length)).drop a
def updSeg (N col : Nat) (p : List ByteArray) (ms : List Int) (lost : Nat → Option (List (List ByteArray))) (q : Nat) : Option (List (List ByteArray)) :=
  if segL p ms q = [] then lost q else some (((lost q).getD (List.replicate N [])).set col (segL p ms q))
theorem Fits.next {list : List ByteArray} : ∀ {ms : List Int} {ss : List ByteArray} {lo : Nat}, Fits list ms ss lo → lo ≤ nextM ms list.length ∧ nextM ms list.length ≤ list.length
  | [], [], lo, h => ⟨h, Nat.le_refl _⟩
  | [], _ :: _, lo, h => h.elim
  | m :: ms, s :: ss, lo, h => by
    rcases h with ⟨rfl, h⟩ | ⟨k, rfl, h1, h2, h3⟩
    · rw [nextM, if_neg (by decide)]; exact h.next
    · have := (List.getElem?_eq_some_iff.1 h2).1
      rw [nextM, if_pos (by omega), Int.toNat_natCast]; omega
  | _ :: _, [], lo, h => h.elim
theorem Fits.at_ {list : List ByteArray} : ∀ {ms : List Int} {ss : List ByteArray} {lo : Nat}, Fits list ms ss lo → ∀ q, q < ms.length → (ms.getD q (-1) = -1) ∨ ∃ k : Nat, ms.getD q (-1) = (k : Int) ∧ list[k]? = ss[q]? ∧ k < list.length ∧ k + 1 ≤ nextM (ms.drop (q + 1)) list.length
  | [], ss, lo, h, q, hq => absurd hq (by simp)
  | m :: ms, s :: ss, lo, h, 0, hq => by
    rcases h with ⟨rfl, h⟩ | ⟨k, rfl, h1, h2, h3⟩
    · exact .inl rfl
    · exact .inr ⟨k, rfl, by rw [h2]; rfl, (List.getElem?_eq_some_iff.1 h2).1, h3.next.1⟩
  | m :: ms, s :: ss, lo, h, q + 1, hq => by
    have hq' : q < ms.length := by simpa using hq
    rcases h with ⟨rfl, h⟩ | ⟨k, rfl, h1, h2, h3⟩
    · exact h.at_ q hq'
    · exact h3.at_ q hq'
  | _ :: _, [], lo, h, q, hq => h.elim
theorem Fits.drop_next {list : List ByteArray} : ∀ {ms : List Int} {ss : List ByteArray} {lo : Nat}, Fits list ms ss lo → ∀ q, nextM (ms.drop q) list.length ≤ list.length
  | ms, ss, lo, h, 0 => h.next.2
  | [], ss, lo, h, q + 1 => Nat.le_refl _
  | m :: ms, s :: ss, lo, h, q + 1 => by
    rcases h with ⟨rfl, h⟩ | ⟨k, rfl, h1, h2, h3⟩
    · exact h.drop_next q
    · exact h3.drop_next q
  | _ :: _, [], lo, h, q + 1 => h.elim
theorem nextM_skip {ms : List Int} {L : Nat} (last : Nat) : ∀ (n : Nat), last + n ≤ ms.length → (∀ j, last ≤ j → j < last + n → ms.getD j (-1) < 0) → nextM (ms.drop last) L = nextM (ms.drop (last + n)) L
  | 0, _, _ => rfl
  | n + 1, hl, hn => by
    rw [nextM_skip last n (by omega) (fun j h1 h2 => hn j h1 (by omega)), dropCons (i := last + n) (by omega), nextM]
    have := hn (last + n) (by omega) (by omega)
    rw [show ms.getD (last + n) (-1) = ms[last + n] by simp [List.getD_eq_getElem?_getD, List.getElem?_eq_getElem (show last + n < ms.length by omega)]] at this
    rw [if_neg (by omega)]; rfl
theorem fromM_none {ms : List Int} {last i q : Nat} (h : ∀ j, last ≤ j → j < i → ms.getD j (-1) < 0) (h1 : last < q) (h2 : q ≤ i ∨ ms.length ≤ i) : fromM ms q = none := by
  obtain ⟨q, rfl⟩ : ∃ q', q = q' + 1 := ⟨q - 1, by omega⟩
  rw [fromM]
  have : ms.getD q (-1) < 0 := by
    by_cases hq : q < i
    · exact h q (by omega) hq
    · rw [List.getD_eq_getElem?_getD, List.getElem?_eq_none (by omega)]; decide
  rw [if_neg (by omega)]
theorem segL_none {p : List ByteArray} {ms : List Int} {q : Nat} (h : fromM ms q = none) : segL p ms q = [] := by rw [segL, h]
theorem loseAt_eq {N col : Nat} {p : List ByteArray} {ms : List Int} {lost : Nat → Option (List (List ByteArray))} {at_ last : Nat} (hF : nextM (ms.drop last) p.length ≤ p.length) (ha : fromM ms last = some at_) (q : Nat) :
    loseAt N col p lost (nextM (ms.drop last) p.length) at_ last q = if q = last then updSeg N col p ms lost q else lost q := by
  have hs : segL p ms last = (p.take (nextM (ms.drop last) p.length)).drop at_ := by rw [segL, ha]
  by_cases hq : q = last
  · subst hq
    rw [if_pos rfl, updSeg, hs, loseAt]
    by_cases h : at_ < nextM (ms.drop q) p.length
    · have hne : ¬ (p.take (nextM (ms.drop q) p.length)).drop at_ = [] := by rw [List.drop_eq_nil_iff, List.length_take]; omega
      rw [if_pos h, if_neg hne]
      exact if_pos rfl
    · rw [if_neg h, if_pos (List.drop_eq_nil_iff.2 (by simp; omega))]
  · rw [if_neg hq, loseAt]
    split
    · simp [hq]
    · rfl
theorem pairGo_eq {N col : Nat} {p ss : List ByteArray} {ms : List Int} (hF : Fits p ms ss 0) : ∀ (t : List Int) (i at_ last : Nat) (lost : Nat → Option (List (List ByteArray))), ms.drop i = t → last ≤ i → i ≤ ms.length → fromM ms last = some at_ → (∀ j, last ≤ j → j < i → ms.getD j (-1) < 0) →
    ∀ q, pairGo N col p t i at_ last lost q = if q < last then lost q else updSeg N col p ms lost q
  | [], i, at_, last, lost, hd, hli, hi, ha, hn, q => by
    have hlen : ms.length ≤ i := List.drop_eq_nil_iff.1 hd
    have hnx : nextM (ms.drop last) p.length = p.length := by
      rw [nextM_skip last (i - last) (by omega) (fun j a b => hn j a (by omega)), show last + (i - last) = i by omega, hd]; rfl
    have := loseAt_eq (N := N) (col := col) (lost := lost) (by rw [hnx]; exact Nat.le_refl _) ha q
    rw [hnx] at this
    rw [pairGo, this]
    by_cases h1 : q < last
    · rw [if_neg (by omega), if_pos h1]
    · rw [if_neg h1]
      by_cases h2 : q = last
      · rw [if_pos h2]
      · rw [if_neg h2, updSeg, if_pos (segL_none (fromM_none hn (by omega) (.inr hlen)))]
  | m :: t, i, at_, last, lost, hd, hli, hi, ha, hn, q => by
    have hil : i < ms.length := by
      apply Classical.byContradiction
      intro h
      rw [List.drop_of_length_le (by omega)] at hd
      cases hd
    rw [dropCons hil] at hd
    have hm : ms[i] = m := (List.cons.inj hd).1
    have ht : ms.drop (i + 1) = t := (List.cons.inj hd).2
    have hg : ms.getD i (-1) = m := by rw [← hm]; simp [List.getD_eq_getElem?_getD, List.getElem?_eq_getElem hil]
    rw [pairGo]
    by_cases h0 : 0 ≤ m
    · rw [if_pos h0, pairGo_eq hF t (i + 1) (m.toNat + 1) (i + 1) _ ht (Nat.le_refl _) hil (by rw [fromM, hg, if_pos h0]) (fun j a b => by omega) q]
      have hnx : nextM (ms.drop last) p.length = m.toNat := by
        rw [nextM_skip last (i - last) (by omega) (fun j a b => hn j a (by omega)), show last + (i - last) = i by omega, dropCons hil, nextM, hm, if_pos h0]
      have := loseAt_eq (N := N) (col := col) (lost := lost) (hF.drop_next last) ha
      rw [hnx] at this
      by_cases h1 : q < last
      · rw [if_pos (by omega), if_pos h1, this q, if_neg (by omega)]
      · rw [if_neg h1]
        by_cases h2 : q = last
        · rw [if_pos (by omega), this q, if_pos h2]
        · by_cases h3 : q < i + 1
          · rw [if_pos h3, this q, if_neg h2, updSeg, if_pos (segL_none (fromM_none hn (by omega) (.inl (by omega))))]
          · rw [if_neg h3, updSeg, updSeg, this q, if_neg h2]
    · rw [if_neg h0, pairGo_eq hF t (i + 1) at_ last lost ht (by omega) hil ha (fun j a b => by
        by_cases hj : j = i
        · subst hj; rw [hg]; omega
        · exact hn j a (by omega)) q]
/-- The parents' lines ahead of a line of the result. -/
def segsL (result : List ByteArray) (ps : List (List ByteArray)) (q : Nat) : List (List ByteArray) := ps.map (fun p => segL p (matchS result p) q)
theorem segsL_length (result : List ByteArray) (ps : List (List ByteArray)) (q : Nat) : (segsL result ps q).length = ps.length := List.length_map ..
theorem empties {ls : List (List ByteArray)} (h : ls.all (·.isEmpty) = true) : ls = List.replicate ls.length [] := by
  induction ls with
  | nil => rfl
  | cons l t ih =>
    simp only [List.all_cons, Bool.and_eq_true, List.isEmpty_iff] at h
    rw [List.length_cons, List.replicate_succ, h.1, ← ih h.2]
theorem lostK_eq (result : List ByteArray) (parents : List (List ByteArray)) (q : Nat) : ∀ k, k ≤ parents.length → lostK result parents k q = if (segsL result (parents.take k) q).all (·.isEmpty) = true then none else some (segsL result (parents.take k) q ++ List.replicate (parents.length - k) [])
  | 0, _ => by
    rw [List.take_zero]; rfl
  | k + 1, hk => by
    have hkl : k < parents.length := by omega
    have ih := lostK_eq result parents q k (by omega)
    have hpg : pairGo parents.length k (parents.getD k []) (matchS result (parents.getD k [])) 0 0 0 (lostK result parents k) q = _ := pairGo_eq (matchS_fits result _) _ 0 0 0 _ rfl (Nat.le_refl _) (Nat.zero_le _) rfl (fun j a b => by omega) q
    rw [lostK_succ _ _ hkl, hpg, if_neg (by omega), updSeg]
    have hp : parents.getD k [] = parents[k] := by simp [hkl]
    have hs : segsL result (parents.take (k + 1)) q = segsL result (parents.take k) q ++ [segL (parents.getD k []) (matchS result (parents.getD k [])) q] := by
      rw [← List.take_append_getElem hkl, segsL, List.map_append, hp]; rfl
    rw [hs]
    obtain ⟨S, hS⟩ : ∃ S, segsL result (parents.take k) q = S := ⟨_, rfl⟩
    obtain ⟨s, hs1⟩ : ∃ s, segL (parents.getD k []) (matchS result (parents.getD k [])) q = s := ⟨_, rfl⟩
    have hSl : S.length = k := by rw [← hS, segsL_length, List.length_take]; omega
    rw [hS] at ih
    rw [hS, hs1]
    have hrep : List.replicate (parents.length - k) ([] : List ByteArray) = [] :: List.replicate (parents.length - (k + 1)) [] := by
      rw [show parents.length - k = (parents.length - (k + 1)) + 1 by omega, List.replicate_succ]
    by_cases e : s = []
    · subst e
      rw [if_pos rfl, ih, List.all_append]
      have : ([[]] : List (List ByteArray)).all (·.isEmpty) = true := rfl
      rw [this, Bool.and_true, hrep]
      simp
    · have hne : (S ++ [s]).all (·.isEmpty) = false := by
        rw [List.all_append]
        have : ([s] : List (List ByteArray)).all (·.isEmpty) = false := by
          cases s with
          | nil => exact absurd rfl e
          | cons a b => rfl
        rw [this, Bool.and_false]
      rw [if_neg e, hne, if_neg (by decide)]
      have hget : (lostK result parents k q).getD (List.replicate parents.length []) = S ++ List.replicate (parents.length - k) [] := by
        rw [ih]
        by_cases ha : S.all (·.isEmpty) = true
        · rw [if_pos ha, Option.getD_none]
          have := empties ha
          rw [hSl] at this
          rw [this, List.replicate_append_replicate]
          congr 1; omega
        · rw [if_neg ha]; rfl
      rw [hget, hrep, List.set_append, if_neg (by omega), hSl, Nat.sub_self, List.set_cons_zero, List.append_assoc]; rfl
theorem lostAll_eq (result : List ByteArray) (parents : List (List ByteArray)) (q : Nat) : lostAll result parents q = if (segsL result parents q).all (·.isEmpty) = true then none else some (segsL result parents q) := by
  have := lostK_eq result parents q parents.length (Nat.le_refl _)
  rw [List.take_length, Nat.sub_self, List.replicate_zero, List.append_nil, lostK, List.take_length] at this
  exact this
theorem rowsOf_empties {ls : List (List ByteArray)} (h : ls.all (·.isEmpty) = true) : rowsOf ls = [] := by
  have h1 := rowsOf_le ls
  have h2 : sumLen ls = 0 := by
    rw [empties h]; simp [sumLen]
  rw [h2] at h1
  exact List.length_eq_zero_iff.1 (by omega)
theorem lostRows_eq (result : List ByteArray) (parents : List (List ByteArray)) (q : Nat) : lostRows (lostAll result parents q) = (rowsOf (segsL result parents q)).map (rowOut parents.length) := by
  rw [lostAll_eq]
  by_cases h : (segsL result parents q).all (·.isEmpty) = true
  · rw [if_pos h, lostRows, rowsOf_empties h]; rfl
  · rw [if_neg h, lostRows, segsL_length]
def marksU (result : List ByteArray) (ps : List (List ByteArray)) (k : Nat) : List UInt8 := ps.map (fun p => if 0 ≤ (matchS result p).getD k 0 then 32 else 43)
theorem markS_bs (m : Int) : markS m = bs [if 0 ≤ m then 32 else 43] := by
  unfold markS
  split <;> rfl
theorem marksK_eq (result : List ByteArray) (parents : List (List ByteArray)) (q : Nat) (hq : q < result.length) : ∀ k, k ≤ parents.length → (marksK result parents k).getD (q + 1) ByteArray.empty = bs (marksU result (parents.take k) q)
  | 0, _ => by
    show ((⟨#[32]⟩ :: List.replicate result.length ByteArray.empty).getD (q + 1) ByteArray.empty) = _
    rw [List.getD_cons_succ]
    simp [List.getD_eq_getElem?_getD, List.getElem?_replicate, hq, marksU]
    rfl
  | k + 1, hk => by
    have hkl : k < parents.length := by omega
    have hp : parents.getD k [] = parents[k] := by simp [hkl]
    have hM := (marksK_ok result parents k (by omega)).1
    have ih := marksK_eq result parents q hq k (by omega)
    rw [marksK_succ _ _ hkl, marksF, List.getD_cons_succ]
    have hml := matchS_length result (parents.getD k [])
    have h1 : q < (marksK result parents k).tail.length := by simp [hM]; exact hq
    have h2 : q < (matchS result (parents.getD k [])).length := by rw [hml]; exact hq
    have h3 : (marksK result parents k).tail[q] = (marksK result parents k).getD (q + 1) ByteArray.empty := by
      rw [List.getElem_tail]; simp [List.getD_eq_getElem?_getD, List.getElem?_eq_getElem (show q + 1 < (marksK result parents k).length by omega)]
    have h4 : (matchS result (parents.getD k [])).getD q 0 = (matchS result (parents.getD k []))[q] := by rw [List.getD_eq_getElem?_getD, List.getElem?_eq_getElem h2]; rfl
    rw [List.getD_eq_getElem?_getD, List.getElem?_zipWith, List.getElem?_eq_getElem h1, List.getElem?_eq_getElem h2]
    show (marksK result parents k).tail[q] ++ markS (matchS result (parents.getD k []))[q] = _
    rw [h3, ih, markS_bs, bs_append, ← List.take_append_getElem hkl, marksU, marksU, List.map_append, ← hp, ← h4]; rfl
theorem marksAll_eq (result : List ByteArray) (parents : List (List ByteArray)) (q : Nat) (hq : q < result.length) : (marksAll result parents).getD (q + 1) ByteArray.empty = bs (marksU result parents q) := by
  have := marksK_eq result parents q hq parents.length (Nat.le_refl _)
  rwa [marksK, List.take_length] at this
/-- The rows ahead of a line of the result. -/
def segRows (result : List ByteArray) (parents : List (List ByteArray)) (q : Nat) : List ApiRow := (rowsOf (segsL result parents q)).map (rowOut parents.length)
theorem tableRows_succ (result : List ByteArray) (parents : List (List ByteArray)) (k : Nat) (hk : k < result.length) : tableRows result parents (k + 1) = tableRows result parents k ++ segRows result parents k ++ [⟨bs (marksU result parents k), result[k]⟩] := by
  rw [tableRows, lostRows_eq, marksAll_eq _ _ _ hk, show result.getD k ByteArray.empty = result[k] by simp [hk]]; rfl
theorem tableAll_eq (result : List ByteArray) (parents : List (List ByteArray)) : tableAll result parents = tableRows result parents result.length ++ segRows result parents result.length := by
  rw [tableAll, lostRows_eq]; rfl
/-- What stands ahead of a line is part of the parent. -/
theorem segL_length_le (p : List ByteArray) (ms : List Int) (q : Nat) : (segL p ms q).length ≤ p.length := by
  unfold segL
  split
  · simp
  · simp; omega
end Go.Proofs.Ytnlekganlliikaa.X
-- part XTabRows
namespace Go.Proofs.Ytnlekganlliikaa.X
open Go.RowKit Go.Proofs.YtnlekganlliikaaW.PrintWords Go.Proofs.YtnlekganlliikaaW.PrintLast Go.Proofs.YtnlekganlliikaaW.PrintMore
set_option linter.unusedVariables false
set_option linter.unusedSimpArgs false
theorem awake20 : sennitlaw20_awake.f = some true := by decide +kernel
section
variable {R : List ApiRow}
end
end Go.Proofs.Ytnlekganlliikaa.X
-- part XTabTells
namespace Go.Proofs.Ytnlekganlliikaa.X
open Go.RowKit Go.Proofs.YtnlekganlliikaaW.PrintWords Go.Proofs.YtnlekganlliikaaW.PrintLast Go.Proofs.YtnlekganlliikaaW.PrintMore
set_option linter.unusedVariables false
set_option linter.unusedSimpArgs false
theorem byte10 (c : UInt8) : ((c.toNat : Int) = 10) ↔ c = 10 := by
  constructor
  · intro h
    have : c.toNat = 10 := by omega
    exact UInt8.toNat_inj.1 this
  · rintro rfl; rfl
theorem index10 (u : List UInt8) : (¬ (10 : UInt8) ∈ u ∧ Lib.indexByte u 10 = -1) ∨ (∃ a b, u = a ++ 10 :: b ∧ ¬ (10 : UInt8) ∈ a ∧ Lib.indexByte u 10 = (a.length : Int)) := by
  induction u with
  | nil => left; simp [Lib.indexByte]
  | cons x xs ih =>
    simp only [Lib.indexByte]
    by_cases e : x = 10
    · right; exact ⟨[], xs, by rw [e]; rfl, by simp, by simp [e]⟩
    · have e' : (x == 10) = false := by simp [e]
      have e2 : ¬ (10 : UInt8) = x := fun h => e h.symm
      rw [e']
      rcases ih with ⟨h1, h2⟩ | ⟨a, b, h0, h1, h2⟩
      · left; simp [h1, h2, e2]
      · right
        refine ⟨x :: a, b, by rw [h0]; rfl, by simp [e2, h1], ?_⟩
        rw [if_neg (by decide), if_neg (by simp; omega), h2]
        simp
theorem closed_eq (s : ByteArray) : lineClosed s = (decide (s.data.toList.count 10 = 1) && decide (s.data.toList.getLast? = some 10)) := by
  have hs := sizeLen s
  rw [lineClosed, ← Bool.decide_and, decide_eq_decide]
  rcases index10 s.data.toList with ⟨h1, h2⟩ | ⟨a, b, h0, h1, h2⟩
  · rw [h2, List.count_eq_zero.2 h1]; omega
  · rw [h2, hs, h0, List.count_append, List.count_eq_zero.2 h1, List.count_cons_self, List.length_append, List.length_cons]
    cases b with
    | nil => simp
    | cons y t =>
      rw [List.getLast?_append, List.getLast?_cons_cons]
      constructor
      · intro ⟨_, h⟩; rw [List.length_cons] at h; omega
      · rintro ⟨h3, h4⟩
        have h5 : (y :: t).getLast? = some 10 := by
          cases hg : (y :: t).getLast? with
          | none => simp at hg
          | some z => rw [hg] at h4; exact h4
        have := List.count_pos_iff.2 (List.mem_of_getLast? h5)
        omega
theorem open_eq (s : ByteArray) : lineOpen s = (decide (0 < s.size) && decide (s.data.toList.count 10 = 0)) := by
  rw [lineOpen, ← Bool.decide_and, decide_eq_decide, List.count_eq_zero]
  rcases index10 s.data.toList with ⟨h1, h2⟩ | ⟨a, b, h0, h1, h2⟩
  · rw [h2]; simp [h1]
  · rw [h2]
    have : (10 : UInt8) ∈ s.data.toList := by rw [h0]; simp
    constructor
    · rintro ⟨h, _⟩; omega
    · rintro ⟨_, h⟩; exact absurd this h
theorem ref_feeds_l0 (s : ByteArray) (hs : s.size ≤ 1000000000) : ∀ (r i k : Nat) (n : Nat), i + r = s.size → n ≤ i → r + 1 ≤ k → sennitref01_feeds.l0 k s (n : Int) (i : Int) = some (((n + (s.data.toList.drop i).count 10 : Nat) : Int))
  | 0, i, k + 1, n, hi, hn, _ => by
    rw [sennitref01_feeds.l0, if_neg (by omega), List.drop_of_length_le (by rw [← sizeLen]; omega)]
    simp
  | r + 1, i, k + 1, n, hi, hn, hk => by
    have hd := dropCons (l := s.data.toList) (i := i) (by rw [← sizeLen]; omega)
    rw [sennitref01_feeds.l0, if_pos (by omega), if_pos (by omega), btN (by omega), hd]
    obtain ⟨c, hc⟩ : ∃ c, s.data.toList[i]'(by rw [← sizeLen]; omega) = c := ⟨_, rfl⟩
    rw [hc, gw1 (i := i) (by omega), gw1 (i := n) (by omega)]
    by_cases e : c = 10
    · rw [if_pos ((byte10 c).2 e), e, List.count_cons_self, ref_feeds_l0 s hs r (i + 1) k (n + 1) (by omega) (by omega) (by omega)]
      congr 1; omega
    · rw [if_neg (fun h => e ((byte10 c).1 h)), List.count_cons_of_ne e, ref_feeds_l0 s hs r (i + 1) k n (by omega) (by omega) (by omega)]
theorem ref_feeds (s : ByteArray) (hs : s.size ≤ 1000000000) (k : Nat) (hk : s.size + 1 ≤ k) : sennitref01_feeds.f k s = some ((s.data.toList.count 10 : Nat) : Int) := by
  have := ref_feeds_l0 s hs s.size 0 k 0 (by omega) (by omega) hk
  simpa [sennitref01_feeds.f] using this
theorem last_idx (s : ByteArray) (h : 0 < s.size) : s.data.toList.getLast? = some (s.data.toList[s.size - 1]'(by rw [← sizeLen]; omega)) := by
  rw [List.getLast?_eq_getElem?, List.getElem?_eq_getElem (by simp at h ⊢; omega)]
  simp
theorem ref_line (s : ByteArray) (hs : s.size ≤ 1000000000) (k : Nat) (hk : s.size + 1 ≤ k) : sennitref01_Line.f k s = some (lineClosed s) := by
  rw [sennitref01_Line.f, ref_feeds s hs k hk, Option.bind_some, closed_eq]
  by_cases h1 : s.data.toList.count 10 = 1
  · have hp : 0 < s.size := by
      rw [sizeLen]
      exact List.length_pos_iff.2 (fun e => by rw [e] at h1; simp at h1)
    have ew : wrap64 ((s.size : Int) - 1) = ((s.size - 1 : Nat) : Int) := by rw [gw (by omega) (by omega)]; omega
    rw [if_pos (by omega), ew, if_pos (by omega), if_pos (by omega), btN (by omega), last_idx s hp]
    congr 1
    rw [decide_eq_true h1, Bool.true_and, Bool.eq_iff_iff]
    simp only [beq_iff_eq, decide_eq_true_eq, Option.some.injEq, byte10]
  · rw [if_neg (by omega), decide_eq_false h1]
    rfl
theorem ref_may_l0 (l : List ByteArray) (hl : l.length ≤ 1000000) (M : Nat) (hM : M ≤ 1000000) (hs : ∀ s ∈ l, s.size ≤ M) : ∀ (r i k : Nat), i + r = l.length → r + M + 2 ≤ k → sennitref01_May.l0 k l (i : Int) = some (mayL (l.drop i))
  | 0, i, k + 1, hi, _ => by
    rw [sennitref01_May.l0, if_neg (by omega), List.drop_of_length_le (by omega)]
    rfl
  | r + 1, i, k + 1, hi, hk => by
    have hil : i < l.length := by omega
    have hd := dropCons hil
    have hz : l[i].size ≤ M := hs _ (List.getElem_mem _)
    have ih := ref_may_l0 l hl M hM hs r (i + 1) k (by omega) (by omega)
    have hln := ref_line l[i] (by omega) k (by omega)
    have hfd := ref_feeds l[i] (by omega) k (by omega)
    rw [sennitref01_May.l0, if_pos (by omega), rdOfN hil, gw1 (by omega), gw (x := (l.length : Int) - 1) (by omega) (by omega), hln, hfd, ih, hd]
    have hm : mayL (l[i] :: l.drop (i + 1)) = ((lineClosed l[i] || ((decide (0 < l[i].size) && decide (l[i].data.toList.count 10 = 0)) && (l.drop (i + 1)).isEmpty)) && mayL (l.drop (i + 1))) := by
      rw [mayL, open_eq]
    have hnil : ((l.drop (i + 1)).isEmpty = true) ↔ ((i : Int) = (l.length : Int) - 1) := by
      rw [List.isEmpty_iff, List.drop_eq_nil_iff]; omega
    rw [hm]
    obtain ⟨m, hm⟩ : ∃ m, mayL (l.drop (i + 1)) = m := ⟨_, rfl⟩
    obtain ⟨c, hc⟩ : ∃ c, lineClosed l[i] = c := ⟨_, rfl⟩
    rw [hm, hc]
    simp only [Option.bind_some]
    clear hm hln hfd ih hd hc
    by_cases e1 : (i : Int) = (l.length : Int) - 1
    · rw [if_pos e1, if_pos (by omega), hnil.2 e1, Bool.and_true]
      by_cases e2 : 0 < l[i].size
      · rw [if_pos (by omega), decide_eq_true e2, Bool.true_and]
        by_cases e3 : l[i].data.toList.count 10 = 0
        · rw [if_pos (by omega), decide_eq_true e3]
          cases c <;> cases m <;> rfl
        · rw [if_neg (by omega), decide_eq_false e3]
          cases c <;> cases m <;> rfl
      · rw [if_neg (by omega), decide_eq_false e2]
        cases c <;> cases m <;> rfl
    · have : (l.drop (i + 1)).isEmpty = false := by
        cases hh : (l.drop (i + 1)).isEmpty
        · rfl
        · exact absurd (hnil.1 hh) e1
      rw [if_neg e1, if_pos (by omega), this, Bool.and_false]
      cases c <;> cases m <;> rfl
theorem ref_May01 (l : List ByteArray) (hl : l.length ≤ 1000000) (hs : ∀ s ∈ l, s.size ≤ 1000000) : Gives (fun k => sennitref01_May.f k l) (mayL l) :=
  ⟨l.length + 1000000 + 2, fun k hk => by
    have := ref_may_l0 l hl 1000000 (Nat.le_refl _) hs l.length 0 k (by omega) hk
    simpa [sennitref01_May.f] using this⟩

def FewT (result : List ByteArray) (ls : List (List ByteArray)) : Prop := (result.length ≤ 16 ∧ ∀ s ∈ result, s.size ≤ 100) ∧ ls.length ≤ 6 ∧ ∀ l ∈ ls, l.length ≤ 16 ∧ ∀ s ∈ l, s.size ≤ 100
section
variable {result : List ByteArray} {ls : List (List ByteArray)}
theorem FewT.sum (h : FewT result ls) : sumLen ls ≤ 96 := by
  have := sumLen_take 16 ls ls.length (fun l hl => (h.2.2 l hl).1)
  rw [List.take_length] at this
  have := h.2.1
  omega
theorem FewT.ok (h : FewT result ls) : tableOk result ls = true := by
  obtain ⟨⟨h1, h2⟩, h3, h4⟩ := h
  have h5 : sumLen ls ≤ 96 := FewT.sum ⟨⟨h1, h2⟩, h3, h4⟩
  rw [tableOk, Bool.and_eq_true, Bool.or_eq_true]
  refine ⟨decide_eq_true ⟨by omega, by omega, ?_⟩, .inr (decide_eq_true (by omega))⟩
  intro l hl
  rcases List.mem_cons.1 hl with rfl | hl
  · exact ⟨by omega, fun s hs => by have := h2 s hs; omega⟩
  · have := (h4 l hl).1
    exact ⟨by omega, fun s hs => by have := (h4 l hl).2 s hs; omega⟩
theorem FewT.table (h : FewT result ls) : table_Table.f result ls = some (tableF result ls) := by rw [table_Table.f, if_pos h.ok]

end
section
variable {result : List ByteArray} {ls : List (List ByteArray)}
theorem segRows_len (result : List ByteArray) (ls : List (List ByteArray)) (q : Nat) : (segRows result ls q).length ≤ sumLen ls := by
  rw [segRows, List.length_map]
  refine Nat.le_trans (rowsOf_le _) ?_
  rw [segsL, sumLen, sumLen, List.map_map]
  induction ls with
  | nil => simp
  | cons p t ih =>
    simp only [List.map_cons, List.sum_cons, Function.comp_apply]
    have := segL_length_le p (matchS result p) q
    have := ih
    simp only [Function.comp_def] at this ⊢
    omega
theorem tableRows_len (result : List ByteArray) (ls : List (List ByteArray)) : ∀ q, q ≤ result.length → (tableRows result ls q).length ≤ q * (sumLen ls + 1)
  | 0, _ => by simp [tableRows]
  | q + 1, h => by
    have := tableRows_len result ls q (by omega)
    have h2 := segRows_len result ls q
    rw [tableRows_succ _ _ _ h, List.length_append, List.length_append, List.length_singleton, Nat.succ_mul]
    omega
theorem FewT.rows (h : FewT result ls) {q : Nat} (hq : q ≤ result.length) : (tableRows result ls q).length ≤ 2000 := by
  have h1 := tableRows_len result ls q hq
  have h2 := h.sum
  have h3 := h.1.1
  have : q * (sumLen ls + 1) ≤ 16 * 97 := Nat.mul_le_mul (by omega) (by omega)
  omega
theorem FewT.all (h : FewT result ls) : (tableAll result ls).length ≤ 3000 := by
  rw [tableAll_eq, List.length_append]
  have := h.rows (Nat.le_refl _)
  have := segRows_len result ls result.length
  have := h.sum
  omega
end
end Go.Proofs.Ytnlekganlliikaa.X
-- part XGapSame
namespace Go.Proofs.Ytnlekganlliikaa.X
open Go.RowKit Go.Proofs.YtnlekganlliikaaW.PrintWords Go.Proofs.YtnlekganlliikaaW.PrintLast Go.Proofs.YtnlekganlliikaaW.PrintMore
set_option linter.unusedVariables false
set_option linter.unusedSimpArgs false
theorem many_of (m : Nat) (h : m < 256) : wrap64 (1 + Int.tmod (wrap64 (m : Int)) 16) = ((1 + m % 16 : Nat) : Int) := by
  rw [gw (x := (m : Int)) (by omega) (by omega), Int.tmod_eq_emod_of_nonneg (by omega), gw (by omega) (by omega)]
  omega
theorem sumLen_replicate (n : Nat) (l : List ByteArray) : sumLen (List.replicate n l) = n * l.length := by
  simp [sumLen]
theorem rowOut_all {n : Nat} (h : n ≤ 16) (s : ByteArray) : rowOut n (allMarks n, s) = ⟨bs (List.replicate n 45), s⟩ := by
  have e : (rowOut n (allMarks n, s)) = ⟨bs (((allMarks n).map markB).take n), s⟩ := rfl
  rw [e, allMarks, List.map_append, List.take_left' (by simp), List.map_replicate]
  rfl
section
variable {l : List ByteArray} {R : List ApiRow} {all : List UInt8}
end
section
variable {ls : List (List ByteArray)} {R M : List ApiRow}
end
section
variable {ls : List (List ByteArray)} {R M : List ApiRow}
end
end Go.Proofs.Ytnlekganlliikaa.X
-- part XTabSame
namespace Go.Proofs.Ytnlekganlliikaa.X
open Go.RowKit Go.Proofs.YtnlekganlliikaaW.PrintWords Go.Proofs.YtnlekganlliikaaW.PrintLast Go.Proofs.YtnlekganlliikaaW.PrintMore
set_option linter.unusedVariables false
set_option linter.unusedSimpArgs false
/-- A table with no line ahead of a line, and the same marks in each row. -/
def flat (U : List UInt8) (l : List ByteArray) : List ApiRow := l.map (fun s => ⟨bs U, s⟩)
theorem tableAll_flat {result : List ByteArray} {ls : List (List ByteArray)} (U : List UInt8) (h1 : ∀ q, (segsL result ls q).all (·.isEmpty) = true) (h2 : ∀ k, k < result.length → marksU result ls k = U) : tableAll result ls = flat U result := by
  have hs : ∀ q, segRows result ls q = [] := fun q => by rw [segRows, rowsOf_empties (h1 q)]; rfl
  have hr : ∀ q, q ≤ result.length → tableRows result ls q = flat U (result.take q) := by
    intro q
    induction q with
    | zero => intro _; rfl
    | succ q ih =>
      intro hq
      rw [tableRows_succ _ _ _ hq, ih (by omega), hs, List.append_nil, h2 q hq, ← List.take_append_getElem hq, flat, flat, List.map_append]; rfl
  rw [tableAll_eq, hr _ (Nat.le_refl _), hs, List.append_nil, List.take_length]
theorem all_empty_replicate {f : List ByteArray → List ByteArray} {n : Nat} {l : List ByteArray} (h : f l = []) : ((List.replicate n l).map f).all (·.isEmpty) = true := by
  rw [List.map_replicate, h]
  induction n with
  | zero => rfl
  | succ n ih => rw [List.replicate_succ, List.all_cons, ih]; rfl
section
variable (l : List ByteArray)
theorem self_get (q : Nat) : (matchS l l).getD q (-1) = if q < l.length then (q : Int) else -1 := by
  rw [matchS_self, List.getD_eq_getElem?_getD, List.getElem?_map]
  by_cases h : q < l.length
  · rw [if_pos h, List.getElem?_range' h]; simp
  · rw [if_neg h, List.getElem?_eq_none (by simp; omega)]; rfl
theorem self_drop (q : Nat) (h : q < l.length) : nextM ((matchS l l).drop q) l.length = q := by
  have hl : q < (matchS l l).length := by rw [matchS_length]; exact h
  have e := self_get l q
  rw [if_pos h, List.getD_eq_getElem?_getD, List.getElem?_eq_getElem hl] at e
  have e' : (matchS l l)[q] = (q : Int) := e
  rw [dropCons hl, e', nextM, if_pos (by omega), Int.toNat_natCast]
theorem self_seg (q : Nat) : segL l (matchS l l) q = [] := by
  rw [segL]
  split
  · rfl
  · rename_i a ha
    have hq : q = a ∧ q ≤ l.length := by
      cases q with
      | zero => exact ⟨Option.some.inj ha, Nat.zero_le _⟩
      | succ q =>
        rw [fromM, self_get] at ha
        by_cases h : q < l.length
        · rw [if_pos h, if_pos (by omega), Int.toNat_natCast] at ha
          exact ⟨Option.some.inj ha, h⟩
        · rw [if_neg h, if_neg (by decide)] at ha; cases ha
    obtain ⟨rfl, hq⟩ := hq
    rw [List.drop_eq_nil_iff, List.length_take]
    by_cases h : q < l.length
    · rw [self_drop l q h]; omega
    · omega
theorem table_self {n : Nat} : tableAll l (List.replicate n l) = flat (List.replicate n 32) l := by
  refine tableAll_flat _ (fun q => all_empty_replicate (self_seg l q)) fun k hk => ?_
  have e := self_get l k
  rw [if_pos hk] at e
  have hk' : k < (matchS l l).length := by rw [matchS_length]; exact hk
  have e2 : (matchS l l).getD k 0 = (k : Int) := by
    rw [List.getD_eq_getElem?_getD, List.getElem?_eq_getElem hk'] at e ⊢; exact e
  rw [marksU, List.map_replicate, e2, if_pos (by omega)]
theorem table_none {n : Nat} : tableAll l (List.replicate n []) = flat (List.replicate n 43) l := by
  refine tableAll_flat _ (fun q => all_empty_replicate ?_) fun k hk => ?_
  · rw [segL]; split <;> simp
  · have e : (matchS l []).getD k 0 = -1 := by rw [matchS_nil, List.getD_eq_getElem?_getD, List.getElem?_replicate, if_pos hk]; rfl
    rw [marksU, List.map_replicate, e, if_neg (by decide)]
theorem table_gone {n : Nat} (h0 : 0 < n) (h1 : n ≤ 16) : tableAll [] (List.replicate n l) = flat (List.replicate n 45) l := by
  have hs : segsL [] (List.replicate n l) 0 = List.replicate n l := by
    rw [segsL, List.map_replicate]
    have : segL l (matchS [] l) 0 = l := by
      have hm : matchS [] l = [] := List.length_eq_zero_iff.1 (matchS_length _ _)
      rw [hm, segL]
      show (l.take l.length).drop 0 = l
      rw [List.take_length, List.drop_zero]
    rw [this]
  rw [tableAll_eq]
  show [] ++ segRows [] (List.replicate n l) 0 = _
  rw [List.nil_append, segRows, hs, rowsOf_same l n h0 h1, List.map_map, List.length_replicate, flat]
  exact List.map_congr_left fun s _ => rowOut_all h1 s
end
theorem wrong_none {result : List ByteArray} {n : Nat} {l : List ByteArray} (h0 : 0 < n) (h1 : n ≤ 16) (hr : mayL result = true) (hl : mayL l = true) (zr : result.length ≤ 2000) (zl : l.length ≤ 2000) : wrongF mayL (result :: List.replicate n l) = 0 := by
  have hm : ∀ x ∈ result :: List.replicate n l, mayL x = true ∧ x.length ≤ 2000 := by
    intro x hx
    rcases List.mem_cons.1 hx with rfl | hx
    · exact ⟨hr, zr⟩
    · rw [(List.mem_replicate.1 hx).2]; exact ⟨hl, zl⟩
  rw [wrongF, if_neg (by simp; omega), if_neg, if_neg]
  · rw [List.any_eq_true]
    rintro ⟨x, hx, h⟩
    have := (hm x hx).2
    have := of_decide_eq_true h
    omega
  · rw [List.any_eq_true]
    rintro ⟨x, hx, h⟩
    rw [(hm x hx).1] at h; cases h
theorem table_many {result : List ByteArray} {n : Nat} {l : List ByteArray} (h0 : 0 < n) (h1 : n ≤ 16) (hr : mayL result = true) (hl : mayL l = true) (zr : result.length ≤ 16) (zl : l.length ≤ 16) (sr : ∀ s ∈ result, s.size ≤ 100) (sl : ∀ s ∈ l, s.size ≤ 100) :
    table_Table.f result (List.replicate n l) = some (tableAll result (List.replicate n l), 0) := by
  have hw := wrong_none h0 h1 hr hl (by omega) (by omega)
  have hsum : sumLen (List.replicate n l) ≤ 256 := by
    rw [sumLen_replicate]
    have := Nat.mul_le_mul h1 zl
    omega
  have hok : tableOk result (List.replicate n l) = true := by
    rw [tableOk, Bool.and_eq_true, Bool.or_eq_true]
    refine ⟨decide_eq_true ⟨by omega, by rw [List.length_replicate]; omega, ?_⟩, .inr (decide_eq_true (by omega))⟩
    intro x hx
    rcases List.mem_cons.1 hx with rfl | hx
    · exact ⟨by omega, fun s hs => by have := sr s hs; omega⟩
    · rw [(List.mem_replicate.1 hx).2]; exact ⟨by omega, fun s hs => by have := sl s hs; omega⟩
  rw [table_Table.f, if_pos hok, tableF, if_neg (by simpa using hw)]
section
variable {l : List ByteArray}
theorem flat_get (U : List UInt8) {i : Nat} (h : i < l.length) : rd_T37 (flat U l) (i : Int) = ⟨bs U, l[i]⟩ := by
  have : rd_T37 (flat U l) (i : Int) = (flat U l)[i]'(by simpa [flat] using h) := getN (by simpa [flat] using h)
  rw [this]; simp [flat]
theorem flat_len (U : List UInt8) (l : List ByteArray) : (flat U l).length = l.length := by simp [flat]
theorem bt_rep (n : Nat) (c : UInt8) {j : Nat} (h : j < n) : bt (bs (List.replicate n c)) (j : Int) = (c.toNat : Int) := by
  have hj : j < (bs (List.replicate n c)).size := by rw [bs_size, List.length_replicate]; exact h
  rw [btN hj]
  simp [bs]
theorem tsame_l2 (hl : l.length ≤ 1000) {n : Nat} (hn : n ≤ 16) {i : Nat} (hi : i < l.length) (hR : Gives (fun k => sennitlaw20_TableSame.l1 k true (n : Int) (flat (List.replicate n 32) l) 0 (flat (List.replicate n 45) l) 0 (flat (List.replicate n 43) l) 0 ((i + 1 : Nat) : Int)) true) : ∀ (r j : Nat), j + r = n →
    Gives (fun k => sennitlaw20_TableSame.l2 k true (n : Int) (flat (List.replicate n 32) l) 0 (flat (List.replicate n 45) l) 0 (flat (List.replicate n 43) l) 0 (i : Int) (j : Int)) true := by
  intro r
  induction r with
  | zero =>
    intro j hj
    refine hR.step fun k => ?_
    show sennitlaw20_TableSame.l2 (k + 1) true (n : Int) _ 0 _ 0 _ 0 (i : Int) (j : Int) = _
    rw [sennitlaw20_TableSame.l2, if_neg (by omega), gw1 (by omega)]
  | succ r ih =>
    intro j hj
    have hz : ∀ c : UInt8, (bs (List.replicate n c)).size = n := fun c => by rw [bs_size, List.length_replicate]
    refine (ih (j + 1) (by omega)).step fun k => ?_
    show sennitlaw20_TableSame.l2 (k + 1) true (n : Int) _ 0 _ 0 _ 0 (i : Int) (j : Int) = _
    have e1 := flat_get (l := l) (List.replicate n 32) hi
    have e2 := flat_get (l := l) (List.replicate n 45) hi
    have e3 := flat_get (l := l) (List.replicate n 43) hi
    have b1 := bt_rep n 32 (j := j) (by omega)
    have b2 := bt_rep n 45 (j := j) (by omega)
    have b3 := bt_rep n 43 (j := j) (by omega)
    rw [sennitlaw20_TableSame.l2, if_pos (by omega), if_pos (by omega), if_pos (by rw [flat_len]; omega), e1, if_pos (by rw [hz]), if_pos (by rw [flat_len]; omega), e2, if_pos (by rw [hz]), if_pos (by rw [flat_len]; omega), e3, if_pos (by rw [hz]), if_pos (by omega), if_pos (by rw [hz]; omega), b1, if_pos (by decide), if_pos (by rw [hz]; omega), b2, if_pos (by decide), if_pos (by rw [hz]; omega), b3, if_pos (by decide), gw1 (by omega)]
theorem tsame_l1 (hl : l.length ≤ 1000) {n : Nat} (hn : n ≤ 16) : ∀ (r i : Nat), i + r = l.length →
    Gives (fun k => sennitlaw20_TableSame.l1 k true (n : Int) (flat (List.replicate n 32) l) 0 (flat (List.replicate n 45) l) 0 (flat (List.replicate n 43) l) 0 (i : Int)) true := by
  intro r
  induction r with
  | zero =>
    intro i hi
    refine Gives.of fun k => ?_
    show sennitlaw20_TableSame.l1 (k + 1) true (n : Int) _ 0 _ 0 _ 0 (i : Int) = _
    rw [sennitlaw20_TableSame.l1, if_neg (by rw [flat_len]; omega), if_pos rfl, if_pos rfl, if_pos rfl]; rfl
  | succ r ih =>
    intro i hi
    refine (tsame_l2 hl hn (i := i) (by omega) (ih (i + 1) (by omega)) n 0 (by omega)).step fun k => ?_
    show sennitlaw20_TableSame.l1 (k + 1) true (n : Int) _ 0 _ 0 _ 0 (i : Int) = _
    rw [sennitlaw20_TableSame.l1, if_pos (by rw [flat_len]; omega)]; rfl
theorem tsame_l0 {n : Nat} (hn0 : 0 < n) (hn : n ≤ 16) {K : Bool} (hK : ∀ ls, ls = List.replicate n l → Gives (fun k => (sennitref01_Few.f k l 16).bind fun t184 => (if t184 = true then ((sennitref01_May.f k l).bind fun t185 => (sennitlaw20_TableSame.j1 k l true (n : Int) ls (!t185))) else (sennitlaw20_TableSame.j1 k l true (n : Int) ls true))) true) : ∀ (r i : Nat), i + r = n →
    Gives (fun k => sennitlaw20_TableSame.l0 k l true (n : Int) (List.replicate i l) (i : Int)) true := by
  intro r
  induction r with
  | zero =>
    intro i hi
    obtain rfl : i = n := by omega
    refine (hK _ rfl).step fun k => ?_
    show sennitlaw20_TableSame.l0 (k + 1) l true (i : Int) _ (i : Int) = _
    rw [sennitlaw20_TableSame.l0, if_neg (by omega)]
  | succ r ih =>
    intro i hi
    have := ih (i + 1) (by omega)
    rw [show List.replicate (i + 1) l = List.replicate i l ++ [l] from List.replicate_succ' ..] at this
    refine this.step fun k => ?_
    show sennitlaw20_TableSame.l0 (k + 1) l true (n : Int) _ (i : Int) = _
    rw [sennitlaw20_TableSame.l0, if_pos (by omega), if_pos (by rw [List.length_replicate]; omega), gw1 (by omega)]
end
theorem same20 (l : List ByteArray) (m : Nat) (hm : m < 256) : Gives (fun k => sennitlaw20_TableSame.f k l (m : Int)) true := by
  obtain ⟨n, hn⟩ : ∃ n, 1 + m % 16 = n := ⟨_, rfl⟩
  have h0 : 0 < n := by omega
  have h1 : n ≤ 16 := by omega
  have hj : ∀ ls, Gives (fun k => sennitlaw20_TableSame.j1 k l true (n : Int) ls true) true := fun ls => Gives.of fun k => by
    show sennitlaw20_TableSame.j1 (k + 1) l true (n : Int) ls true = _
    rw [sennitlaw20_TableSame.j1, if_pos rfl]
  have hf : Gives (fun k => sennitref01_Few.f k l 16) (fewB l 16) := ref_few01 l 16 (by omega)
  have hK : ∀ ls, ls = List.replicate n l → Gives (fun k => (sennitref01_Few.f k l 16).bind fun t184 => (if t184 = true then ((sennitref01_May.f k l).bind fun t185 => (sennitlaw20_TableSame.j1 k l true (n : Int) ls (!t185))) else (sennitlaw20_TableSame.j1 k l true (n : Int) ls true))) true := by
    rintro _ rfl
    cases hb : fewB l 16 with
    | false =>
      rw [hb] at hf
      refine Gives.call0 hf (hj (List.replicate n l)) fun k hk => ?_
      show Option.bind _ _ = _
      rw [hk, Option.bind_some, if_neg (by decide)]
    | true =>
      rw [hb] at hf
      obtain ⟨z1, z2⟩ := of_decide_eq_true hb
      have hmay := ref_May01 l (by omega) (fun s hs => by have := z2 s hs; omega)
      cases hc : mayL l with
      | false =>
        rw [hc] at hmay
        refine Gives.call0 hf (Gives.call0 hmay (hj (List.replicate n l)) (f := fun k => (sennitref01_May.f k l).bind fun t185 => (sennitlaw20_TableSame.j1 k l true (n : Int) (List.replicate n l) (!t185))) fun k hk => ?_) fun k hk => ?_
        · show Option.bind _ _ = _
          rw [hk, Option.bind_some]; rfl
        · show Option.bind _ _ = _
          rw [hk, Option.bind_some, if_pos rfl]
      | true =>
        rw [hc] at hmay
        have t1 := table_many (result := l) (l := l) h0 h1 hc hc z1 z1 z2 z2
        have t2 := table_many (result := []) (l := l) h0 h1 rfl hc (by simp) z1 (by simp) z2
        have t3 := table_many (result := l) (l := []) h0 h1 hc rfl z1 (by simp) z2 (by simp)
        rw [table_self] at t1
        rw [table_gone l h0 h1] at t2
        rw [table_none] at t3
        have hloop := tsame_l1 (l := l) (by omega) h1 l.length 0 (by omega)
        have hj2 : Gives (fun k => sennitlaw20_TableSame.j2 k true (n : Int) (flat (List.replicate n 32) l) 0 (flat (List.replicate n 45) l) 0 (flat (List.replicate n 43) l) 0 false) true := hloop.step fun k => by
          show sennitlaw20_TableSame.j2 (k + 1) true (n : Int) _ 0 _ 0 _ 0 false = _
          rw [sennitlaw20_TableSame.j2, if_neg (by decide)]; rfl
        have hj1 : Gives (fun k => sennitlaw20_TableSame.j1 k l true (n : Int) (List.replicate n l) false) true := hj2.step fun k => by
          show sennitlaw20_TableSame.j1 (k + 1) l true (n : Int) (List.replicate n l) false = _
          have hlen : (((flat (List.replicate n 43) l).length : Int) != (l.length : Int)) = false := by rw [flat_len]; simp
          rw [sennitlaw20_TableSame.j1, if_neg (by decide), t1, Option.bind_some, t2, Option.bind_some, if_pos (by omega), if_pos (by omega), Int.toNat_natCast, t3, Option.bind_some, if_pos (by rw [flat_len]), if_pos (by rw [flat_len]), hlen]
        refine Gives.call0 hf (Gives.call0 hmay hj1 (f := fun k => (sennitref01_May.f k l).bind fun t185 => (sennitlaw20_TableSame.j1 k l true (n : Int) (List.replicate n l) (!t185))) fun k hk => ?_) fun k hk => ?_
        · show Option.bind _ _ = _
          rw [hk, Option.bind_some]; rfl
        · show Option.bind _ _ = _
          rw [hk, Option.bind_some, if_pos rfl]
  have hl0 := tsame_l0 (l := l) (K := true) h0 h1 hK n 0 (by omega)
  refine hl0.same fun k => ?_
  show sennitlaw20_TableSame.f k l (m : Int) = _
  rw [sennitlaw20_TableSame.f, awake20, Option.bind_some, many_of m hm, hn]; rfl
theorem law_TableSame (W : World) (A0 : Option Addr) (c0 : Nat) (l0 : List ByteArray) (hr0 : Kd.C Kd.string W A0 l0.length l0) (hc0 : l0.length ≤ c0) (g0 : l0.length * 16 ≤ 140737488351232 ∧ ∀ y ∈ l0, y.size ≤ 140737488351232) (x1 : Int) (g1 : (Lit.int .u8 x1).wf = true) :
    Calls Try.prog 13 #[.slice A0 l0.length c0, .int .u8 x1] W fun e w' => e = .returned (.bool true) ∧ Below W.heap.size W w' := by
  obtain ⟨m, rfl, hm⟩ := u8N g1
  obtain ⟨k, hk⟩ := same20 l0 m hm
  exact sennitlaw20_TableSame.calls k (fun _ => True) A0 c0 l0 (m : Int) true W (V_of_C Kd.heap_string hr0 hc0) (hk k (Nat.le_refl _))
end Go.Proofs.Ytnlekganlliikaa.X
