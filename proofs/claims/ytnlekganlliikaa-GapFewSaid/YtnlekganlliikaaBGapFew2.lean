/-
  Parts of one proof, one behind the other: XGap3, XGap4, XGap5, XGn1.
-/
import Derived.Test.YtnlekganlliikaaBGapFew1
-- part XGap3
namespace Go.Proofs.Ytnlekganlliikaa.X
open Go.RowKit Go.Proofs.YtnlekganlliikaaW.PrintWords Go.Proofs.YtnlekganlliikaaW.PrintLast Go.Proofs.YtnlekganlliikaaW.PrintMore
set_option linter.unusedVariables false
set_option linter.unusedSimpArgs false
theorem RowsIn.below {W W' : World} {B g : Nat} {rs : List RowG} {e : Int} (h : RowsIn W B g rs e) (hb : Below W.heap.size W W') : RowsIn W' B g rs e := by
  obtain ⟨v, h1, h2, h3⟩ := h
  exact ⟨v, keep_ h1 hb, h2, Kd.R_below h3 hb⟩
theorem lcs_New_pair (A0 : Option Addr) (c0 : Nat) (l0 : List Int) (A1 : Option Addr) (c1 : Nat) (l1 : List Int) (w : World) (hr0 : Kd.C (Kd.int .i64) w A0 l0.length l0) (hc0 : l0.length ≤ c0) (hr1 : Kd.C (Kd.int .i64) w A1 l1.length l1) (hc1 : l1.length ≤ c1) (h0 : l0.length ≤ 2000) (h1 : l1.length ≤ 2000) :
    Calls Try.prog 31 #[.slice A0 l0.length c0, .slice A1 l1.length c1] w fun e w' => ∃ (g : Nat) (d : Int), e = .returned (.tuple #[.pointer (some ⟨g, 0, none⟩), .int .i64 0]) ∧ Aside0 (w.heap.size ≤ g) ∧ Aside0 (PairIn w' g l0 l1 d) ∧ Aside0 (Below w.heap.size w w') := by
  refine (lcs_New_ok A0 c0 l0 A1 c1 l1 w hr0 hc0 hr1 hc1 h0 h1).mono ?_
  rintro e w' ⟨g, rfl, hp, hb⟩
  obtain ⟨d, hd⟩ := PairIn.of_new hp
  exact ⟨g, d, rfl, ⟨hp.1⟩, ⟨hd⟩, ⟨hb⟩⟩

theorem size_row' {x : RowG} (h : x.1.length = 16) : (Try.prog.info? 63).map (·.size) = some (rowCells x).length := size_row h
def comeS (col : Nat) (list : List ByteArray) (rs : List RowG) (e : Int) : List RowG × Int := if rs.length ≤ 2000 ∧ list.length ≤ 2000 then (comeF col list rs, e) else (rs, 4)
section
variable {w0 W W' W2 W4 W5 : World} {B Ba Bl Bc Bo cl col at_ : Nat} {Al : Option Addr} {list : List ByteArray} {rs : List RowG} {v v4 : Value} {x : RowG}
theorem ComeI.below_ (h : ComeI w0 W B Ba Bl Bc Bo Al cl list col at_ rs v) (hb : Below W.heap.size W W') (hB : B ≤ W.heap.size) : ComeI w0 W' B Ba Bl Bc Bo Al cl list col at_ rs v := by
  obtain ⟨h1, h2, h3, ⟨h4, h5⟩, h6, h7, h8, h9⟩ := h
  exact ⟨keep_ h1 hb, keep_ h2 hb, keep_ h3 hb, ⟨keep_ h4 hb, Kd.R_below h5 hb⟩, h6.trans (hb.mono hB), h7, h8, h9⟩
theorem ComeI.set_blk (h : ComeI w0 W B Ba Bl Bc Bo Al cl list col at_ rs v) {bx j : Nat} {u : Value} (hw : Aside0 (W' = W.setCell ⟨bx, j, none⟩ u)) (ha : Ba ≠ bx) (hl : Bl ≠ bx) (hc : Bc ≠ bx) (ho : Bo ≠ bx) (hv : some bx ≠ v.ownBlock) (hB : B ≤ bx) : ComeI w0 W' B Ba Bl Bc Bo Al cl list col at_ rs v := by
  obtain ⟨h1, h2, h3, ⟨h4, h5⟩, h6, h7, h8, h9⟩ := h
  obtain rfl := hw.out
  exact ⟨set_keep h1 ha u, set_keep h2 hl u, set_keep h3 hc u, ⟨set_keep h4 ho u, Kd.R_mono (Kd.R_far (p := ⟨bx, j, none⟩) (Kd.R_tight rfl h5) (fun k hk e => hv (by rw [← hk]; exact congrArg some e.symm)) u) (fun _ _ => trivial)⟩, h6.setCell (p := ⟨bx, j, none⟩) hB _, h7, h8, h9⟩
theorem ComeI.set_at (h : ComeI w0 W B Ba Bl Bc Bo Al cl list col at_ rs v) {n : Nat} (hw : Aside0 (W' = W.setCell ⟨Ba, 0, none⟩ (.int .i64 (n : Int)))) : ComeI w0 W' B Ba Bl Bc Bo Al cl list col n rs v := by
  obtain ⟨h1, h2, h3, ⟨h4, h5⟩, h6, h7, h8, h9⟩ := h
  obtain rfl := hw.out
  exact ⟨by rw [heap_set_same h1]; rfl, set_keep h2 (blk_ne h2 h1 (by decide)) _, set_keep h3 h9.symm _, ⟨set_keep h4 (blk_ne h4 h1 (by decide)) _, Kd.R_set h5 h1 (by decide) _ _⟩, h6.setCell (p := ⟨Ba, 0, none⟩) h7 _, h7, h8, h9⟩
theorem ComeI.set_at1 (h : ComeI w0 W B Ba Bl Bc Bo Al cl list col at_ rs v) {n : Nat} (hw : Aside0 (W' = W.setCell ⟨Ba, 0, none⟩ (.int .i64 ((n : Int) + 1)))) : ComeI w0 W' B Ba Bl Bc Bo Al cl list col (n + 1) rs v := by
  have e : ((n + 1 : Nat) : Int) = (n : Int) + 1 := by omega
  exact h.set_at (n := n + 1) ⟨by rw [e]; exact hw.out⟩
theorem ComeI.put (h : ComeI w0 W B Ba Bl Bc Bo Al cl list col at_ rs v) (hg : W.grownBy W4 v.ownBlock) (hr : Kd.R kRow 63 W4 B (fun _ => True) v4 (rs ++ [x])) (hb : Below B w0 W4) (hw : Aside0 (W5 = W4.setCell ⟨Bo, 0, none⟩ v4)) :
    ComeI w0 W5 B Ba Bl Bc Bo Al cl list col at_ (rs ++ [x]) v4 := by
  obtain ⟨h1, h2, h3, ⟨h4, h5⟩, h6, h7, h8, h9⟩ := h
  obtain rfl := hw.out
  have k1 := (hg.block _ (blk_lt h1) (Kd.R_ne h5 h1 (by decide))).trans h1
  have k2 := (hg.block _ (blk_lt h2) (Kd.R_ne h5 h2 (by decide))).trans h2
  have k3 := (hg.block _ (blk_lt h3) (Kd.R_ne h5 h3 (by decide))).trans h3
  have k4 := (hg.block _ (blk_lt h4) (Kd.R_ne h5 h4 (by decide))).trans h4
  exact ⟨set_keep k1 (blk_ne h1 h4 (by decide)) _, set_keep k2 (blk_ne h2 h4 (by decide)) _, set_keep k3 (blk_ne h3 h4 (by decide)) _, ⟨by rw [heap_set_same k4]; rfl, Kd.R_set hr k4 (by decide) _ _⟩, hb.setCell (p := ⟨Bo, 0, none⟩) h8 _, h7, h8, h9⟩
theorem KeepsF.put (hg : W.grownBy W4 v.ownBlock) (hat : v4.ownBlock = v.ownBlock ∨ ∃ b, v4.ownBlock = some b ∧ W.heap.size ≤ b) {u : Value} (hw : Aside0 (W5 = W4.setCell ⟨Bo, 0, none⟩ u)) : KeepsF Ba Bo W W5 v v4 := by
  obtain rfl := hw.out
  exact ⟨by simpa [World.setCell] using hg.size, fun k hk _ h2 h3 => (heap_set_other h2 _).trans (hg.block k hk h3), hat⟩
theorem KeepsF.far (h : KeepsF Ba Bo W W' v v4) {bx j : Nat} {u : Value} (hw : Aside0 (W2 = W'.setCell ⟨bx, j, none⟩ u)) (hx : W.heap.size ≤ bx) : KeepsF Ba Bo W W2 v v4 := by
  obtain rfl := hw.out
  exact ⟨by simpa [World.setCell] using h.1, fun k hk h1 h2 h3 => (heap_set_other (by omega) _).trans (h.2.1 k hk h1 h2 h3), h.2.2⟩
theorem vf_ne {Wr : World} (hk : KeepsF Ba Bo W W' v v4) (hl : Below Wr.heap.size Wr W) (hv : ∀ k, v.ownBlock = some k → k < Wr.heap.size) (hx : Wr.heap.size < W.heap.size) : some Wr.heap.size ≠ v4.ownBlock := by
  intro e
  rcases hk.2.2 with h | ⟨b, h, h2⟩
  · have := hv _ (h.symm.trans e.symm); omega
  · rw [h] at e; injection e with e; omega
theorem set_at_keep {b g : Nat} {u : Value} {o : Obj} (hw : Aside0 (W' = W.setCell ⟨g, 0, none⟩ u)) (h : W.heap[b]? = some o) (hne : b ≠ g) : W'.heap[b]? = some o := by
  obtain rfl := hw.out
  exact set_keep h hne _
theorem KeepsF.set_blk {bx j : Nat} {u : Value} (hw : Aside0 (W' = W.setCell ⟨bx, j, none⟩ u)) (hx : bx = Ba ∨ bx = Bo) : KeepsF Ba Bo W W' v v := by
  obtain rfl := hw.out
  exact ⟨by simp [World.setCell], fun k hk h1 h2 _ => heap_set_other (by rintro rfl; rcases hx with h | h; exact h1 h; exact h2 h) _, .inl rfl⟩
end
theorem all_two (A0 A1 : Option Addr) (c0 c1 n0 g : Nat) (l0 l1 : List ByteArray) (r : List (List Int)) (w : World) (hg : g = w.heap.size) (hn : n0 = l0.length) (hr0 : Kd.C Kd.string w A0 l0.length l0) (hc0 : l0.length ≤ c0) (hr1 : Kd.C Kd.string w A1 l1.length l1) (hc1 : l1.length ≤ c1) (h : intern_All.f [l0, l1] = some r) :
    Calls Try.prog 30 #[.slice (some ⟨g, 0, none⟩) 2 2] (w.alloc (.cells #[.slice A0 n0 c0, .slice A1 l1.length c1] 34)) fun e w' => ∃ v, e = .returned v ∧ Aside0 (Kd.S KI 49 w' w.heap.size (fun _ => True) v r) ∧ Aside0 (Below w.heap.size w w') := by
  subst hg hn
  have hbl := Below.alloc (Below.refl w.heap.size w) (Nat.le_refl _) (.cells #[.slice A0 l0.length c0, .slice A1 l1.length c1] 34)
  have hblk := blk_new w (.cells #[.slice A0 l0.length c0, .slice A1 l1.length c1] 34)
  have h0 : (Kd.slice 9 Kd.string).K (w.alloc (.cells #[.slice A0 l0.length c0, .slice A1 l1.length c1] 34)) l0 [.slice A0 l0.length c0] := ⟨A0, c0, rfl, hc0, Kd.C_below hr0 hbl⟩
  have h1 : (Kd.slice 9 Kd.string).K (w.alloc (.cells #[.slice A0 l0.length c0, .slice A1 l1.length c1] 34)) l1 [.slice A1 l1.length c1] := ⟨A1, c1, rfl, hc1, Kd.C_below hr1 hbl⟩
  have hC := C_blk (d := Kd.slice 9 Kd.string) (xs := [l0, l1]) (inner := [.slice A0 l0.length c0, .slice A1 l1.length c1]) hblk (Reps.one h0 (Reps.one h1 (Reps.none _ _))) (by simp)
  refine (intern_All.calls _ 2 [l0, l1] r _ hC (by simp) h).mono ?_
  rintro e w' ⟨v, rfl, hs, hb⟩
  exact ⟨v, rfl, ⟨Kd.S_lower hs (by simp)⟩, ⟨hbl.trans (hb.mono (by simp))⟩⟩
theorem S_two {W : World} {B : Nat} {v : Value} {a b : List Int} (h : Kd.S KI 49 W B (fun _ => True) v [a, b]) :
    ∃ gi ci A0 c0 A1 c1, v = .slice (some ⟨gi, 0, none⟩) 2 ci ∧ W.cell? ⟨gi, 0, none⟩ = some (.slice A0 a.length c0) ∧ W.cell? ⟨gi, 1, none⟩ = some (.slice A1 b.length c1) ∧ Kd.C (Kd.int .i64) W A0 a.length a ∧ a.length ≤ c0 ∧ Kd.C (Kd.int .i64) W A1 b.length b ∧ b.length ≤ c1 := by
  obtain ⟨gi, ci, rfl, _⟩ := Kd.S_form h (by simp)
  have hC := (Kd.S_reads' h).2.2
  obtain ⟨ad, A0, c0, e0, h0, l0, k0⟩ := at_slice hC 0 (by simp)
  cases e0
  obtain ⟨ad, A1, c1, e1, h1, l1, k1⟩ := at_slice hC 1 (by simp)
  cases e1
  rw [add0_] at h0 h1
  exact ⟨gi, ci, A0, c0, A1, c1, rfl, h0, h1, k0, l0, k1, l1⟩

set_option maxRecDepth 100000 in
set_option maxHeartbeats 8000000 in
theorem rows_come (g B col : Nat) (rs : List RowG) (e : Int) (Al : Option Addr) (cl : Nat) (list : List ByteArray) (w : World) (h : RowsIn w B g rs e) (hC : Kd.C Kd.string w Al list.length list) (hcl : list.length ≤ cl) (hcol : col < 16)
    (hn : rs.length ≤ 100000) (hl : list.length ≤ 100000) (hz : ∀ x ∈ rs, x.2.size ≤ maxLen) (hz2 : ∀ s ∈ list, s.size ≤ maxLen) (hB : B ≤ w.heap.size) :
    Calls Try.prog 39 #[.pointer (some ⟨g, 0, none⟩), .int .i64 (col : Int), .slice Al list.length cl] w fun e' w' => e' = .returned (.tuple #[]) ∧
      Aside0 (RowsIn w' B g (comeS col list rs e).1 (comeS col list rs e).2) ∧ Aside0 (Below B w w') := by
  have H := Aside0.mk h
  have HC := Aside0.mk hC
  have HZ : Aside0 (∀ l ∈ [rs.map (·.2), list], ∀ s ∈ l, s.size ≤ maxLen) := ⟨by
    intro l hl s hs
    simp only [List.mem_cons, List.not_mem_nil, or_false] at hl
    rcases hl with rfl | rfl
    · obtain ⟨x, hx, rfl⟩ := List.mem_map.1 hs
      exact hz x hx
    · exact hz2 s hs⟩
  have hT : total [rs.map (·.2), list] = rs.length + list.length := by simp [total]
  have hids : intern_All.f [rs.map (·.2), list] = some (idsOf2 rs list) := by
    rw [intern_All.f, if_pos ⟨by simp, by omega, HZ.out⟩]; rfl
  have HIDS := Aside0.mk hids
  have hcl' := Aside0.mk hcl
  clear h hC hz hz2 hT hids hcl
  go_enter Try.func39, Try.ntmps39
  go_wp2_with fail
  obtain ⟨W1, hW1⟩ : ∃ W1, (w.alloc (.cells #[.int .i64 (col : Int)] 3)).alloc (.cells #[.slice Al list.length cl] 34) = W1 := ⟨_, rfl⟩
  have hb1 : Below w.heap.size w W1 := by rw [← hW1]; exact ((Below.refl _ w).alloc (Nat.le_refl _) _).alloc (by simp) _
  have hBl : W1.heap[w.heap.size + 1]? = some (.cells #[.slice Al list.length cl] 34 (0, 0)) := by
    rw [← hW1]; have := blk_new (w.alloc (.cells #[.int .i64 (col : Int)] 3)) (.cells #[.slice Al list.length cl] 34); simpa using this
  have hBc : W1.heap[w.heap.size]? = some (.cells #[.int .i64 (col : Int)] 3 (0, 0)) := by
    rw [← hW1, heap_alloc_old _ _ (by simp)]; exact blk_new _ _
  have hs1 : W1.heap.size = w.heap.size + 2 := by rw [← hW1]; simp
  rw [hW1]
  have HB1 := Aside0.mk hb1
  have HBL := Aside0.mk hBl
  have HBC := Aside0.mk hBc
  have HS1 := Aside0.mk hs1
  have cbl : W1.cell? ⟨w.heap.size + 1, 0, none⟩ = some (.slice Al list.length cl) := cell_blk hBl rfl
  clear hW1 hb1 hBl hBc hs1
  refine start_ (n := 6) (S := fun w' => w'.cell? ⟨w.heap.size + 1, 0, none⟩ = some (.slice Al list.length cl)) (ds := []) #[false, false, false, false, false, false] (by kernel_rfl) rfl rfl (cbl) (fun hHeld => ?_)
  refine pure_ (i := 0) (N := some 15) (v := ?_) (a' := ?_) #[true, false, false, false, false, false] rfl rfl (by kernel_rfl) (fun _ _ _ h => h) (Or.inl ⟨by rfl, ?_⟩) ?_ ?_
  rotate_left
  · intro w'
    go_simp
    with_reducible rfl
  rotate_left
  · simp only [Act.put, List.setIfInBounds_toArray, List.set_cons_zero, List.set_cons_succ, i64_w, i32_w]
    rfl
  refine take_ (i := 2) (N := some 17) (v := ?_) (a' := ?_) #[true, false, true, false, false, false] rfl rfl (by kernel_rfl) (fun _ _ _ h => h) (Or.inl ⟨by rfl, ?_⟩) hHeld ?_ ?_
  rotate_left
  · intro w' s0
    go_simp
    with_reducible rfl
  rotate_left
  · simp only [Act.put, List.setIfInBounds_toArray, List.set_cons_zero, List.set_cons_succ, i64_w, i32_w]
    rfl
  refine one_ (i := 1) (N := some 16) #[true, true, true, false, false, false] rfl rfl (by kernel_rfl) (by decide) (fun K hK => ?_)
  refine goes_ Try.func63 (by kernel_rfl) rfl #[.pointer (some ⟨g, 0, none⟩)] (by rfl) rfl rfl (by simp only [List.map_toArray, List.map_cons, List.map_nil]; rfl) ?_
  with_reducible refine (rows_texts g B rs e W1.drew ((H.out.below HB1.out).below (Below.refl _ _).drew) (by omega)).mono ?_
  rintro e w2 ⟨v2, rfl, HO2, HB2⟩
  refine ⟨_, rfl, ?_⟩
  obtain ⟨A2, c2, rfl⟩ := Kd.R_slice HO2.out
  have cb2 : w2.cell? ⟨w.heap.size + 1, 0, none⟩ = some (.slice Al list.length cl) := (HB2.out.cell (World.block_lt_of_cell? W1 _ cbl)).trans cbl
  have HW2 : Aside0 (Below W1.heap.size W1 w2) := ⟨(Below.refl _ W1).drew.trans HB2.out⟩
  refine hK.out _ _ (cb2) (fun hHeld => ?_)
  clear hK K
  refine norm_ (a' := ?_) ?_ ?_
  rotate_left
  · show Act.put _ (some 16) _ = _
    simp only [Act.put, List.setIfInBounds_toArray, List.set_cons_zero, List.set_cons_succ, i64_w, i32_w]
    rfl
  refine one_ (i := 3) (N := some 18) #[true, true, true, true, false, false] rfl rfl (by kernel_rfl) (by decide) (fun K hK => ?_)
  refine value_ (w1 := ?_) (v := ?_) (by rfl) rfl ?_ ?_
  rotate_left 2
  · go_simp
    constructor
    · rfl
    · rfl
  refine hK.out _ _ (cell_alloc_of cb2 _) (fun hHeld => ?_)
  clear hK K
  refine norm_ (a' := ?_) ?_ ?_
  rotate_left
  · show Act.put _ (some 18) _ = _
    simp only [Act.put, List.setIfInBounds_toArray, List.set_cons_zero, List.set_cons_succ, i64_w, i32_w]
    rfl
  refine one_ (i := 4) (N := some 19) #[true, true, true, true, true, false] rfl rfl (by kernel_rfl) (by decide) (fun K hK => ?_)
  refine goes_ Try.func30 (by kernel_rfl) rfl #[.slice (some ⟨w2.heap.size, 0, none⟩) 2 2] (by rfl) rfl rfl (by simp only [List.map_toArray, List.map_cons, List.map_nil]; rfl) ?_
  with_reducible refine (all_two A2 Al c2 cl rs.length w2.heap.size (rs.map (·.2)) list (idsOf2 rs list) w2 rfl (List.length_map ..).symm (Kd.R_reads' HO2.out).2.2 (Kd.R_reads' HO2.out).2.1 (Kd.C_below (Kd.C_below HC.out HB1.out) HW2.out) hcl'.out HIDS.out).mono ?_
  rintro e w3 ⟨v3, rfl, HS3, HB3⟩
  refine ⟨_, rfl, ?_⟩
  have HW3 : Aside0 (Below W1.heap.size W1 w3) := ⟨far_ HW2.out HB3.out⟩
  have cb3 : w3.cell? ⟨w.heap.size + 1, 0, none⟩ = some (.slice Al list.length cl) := (HB3.out.cell (World.block_lt_of_cell? w2 _ cb2)).trans cb2
  refine hK.out _ _ (cb3) (fun hHeld => ?_)
  clear hK K
  refine norm_ (a' := ?_) ?_ ?_
  rotate_left
  · show Act.put _ (some 19) _ = _
    simp only [Act.put, List.setIfInBounds_toArray, List.set_cons_zero, List.set_cons_succ, i64_w, i32_w]
    rfl
  refine pure_ (i := 5) (N := some 6) (v := ?_) (a' := ?_) #[true, true, true, true, true, true] rfl rfl (by kernel_rfl) (fun _ _ _ h => h) (Or.inl ⟨by rfl, ?_⟩) ?_ ?_
  rotate_left
  · intro w'
    go_simp
    with_reducible rfl
  rotate_left
  · simp only [Act.put, List.setIfInBounds_toArray, List.set_cons_zero, List.set_cons_succ, i64_w, i32_w]
    rfl
  refine done_ (by kernel_rfl) ?_

  clear cbl cb2 cb3
  have HR3 : Aside0 (RowsIn w3 B g rs e) := ⟨(H.out.below HB1.out).below HW3.out⟩
  rw [ids2_list] at HS3
  obtain ⟨hla, hlb⟩ := ids2_len rs list
  have HMG : Aside0 (matchG rs list = matchOf ((idsOf2 rs list).getD 0 []) ((idsOf2 rs list).getD 1 [])) := ⟨rfl⟩
  obtain ⟨a, ha⟩ : ∃ a, (idsOf2 rs list).getD 0 [] = a := ⟨_, rfl⟩
  obtain ⟨b, hb⟩ : ∃ b, (idsOf2 rs list).getD 1 [] = b := ⟨_, rfl⟩
  rw [ha, hb] at HS3 HMG
  rw [ha] at hla
  rw [hb] at hlb
  clear ha hb
  obtain ⟨gi, ci, A0, c0, A1, c1, rfl, x0, x1, k0, m0, k1, m1⟩ := S_two HS3.out
  have K0 := Aside0.mk k0
  have M0 := Aside0.mk m0
  have K1 := Aside0.mk k1
  have M1 := Aside0.mk m1
  have HLA := Aside0.mk hla
  have HLB := Aside0.mk hlb
  clear k0 m0 k1 m1 hla hlb HS3
  by_cases hok : rs.length ≤ 2000 ∧ list.length ≤ 2000
  · have HCS : Aside0 (comeS col list rs e = (comeF col list rs, e)) := ⟨if_pos hok⟩
    obtain ⟨hok1, hok2⟩ := hok
    have la : a.length ≤ 2000 := by rw [HLA.out]; exact hok1
    have lb : b.length ≤ 2000 := by rw [HLB.out]; exact hok2
    go_wp2
    refine start_ (n := 12) (S := fun w' => w'.cell? ⟨gi, 0, none⟩ = some (.slice A0 a.length c0) ∧ w'.cell? ⟨gi, 1, none⟩ = some (.slice A1 b.length c1)) (ds := []) #[false, false, false, false, false, false, false, false, false, false, false, false] (by kernel_rfl) rfl rfl ⟨x0, x1⟩ (fun hHeld => ?_)
    refine pure_ (i := 0) (N := some 21) (v := ?_) (a' := ?_) #[true, false, false, false, false, false, false, false, false, false, false, false] rfl rfl (by kernel_rfl) (fun _ _ _ h => h) (Or.inl ⟨by rfl, ?_⟩) ?_ ?_
    rotate_left
    · intro w'
      go_simp
      with_reducible rfl
    rotate_left
    · simp only [Act.put, List.setIfInBounds_toArray, List.set_cons_zero, List.set_cons_succ, i64_w, i32_w]
      rfl
    refine pure_ (i := 1) (N := some 22) (v := ?_) (a' := ?_) #[true, true, false, false, false, false, false, false, false, false, false, false] rfl rfl (by kernel_rfl) (fun _ _ _ h => h) (Or.inl ⟨by rfl, ?_⟩) ?_ ?_
    rotate_left
    · intro w'
      go_simp
      with_reducible rfl
    rotate_left
    · simp only [Act.put, List.setIfInBounds_toArray, List.set_cons_zero, List.set_cons_succ, i64_w, i32_w]
      rfl
    refine pure_ (i := 3) (N := some 24) (v := ?_) (a' := ?_) #[true, true, false, true, false, false, false, false, false, false, false, false] rfl rfl (by kernel_rfl) (fun _ _ _ h => h) (Or.inl ⟨by rfl, ?_⟩) ?_ ?_
    rotate_left
    · intro w'
      go_simp
      with_reducible rfl
    rotate_left
    · simp only [Act.put, List.setIfInBounds_toArray, List.set_cons_zero, List.set_cons_succ, i64_w, i32_w]
      rfl
    refine pure_ (i := 4) (N := some 25) (v := ?_) (a' := ?_) #[true, true, false, true, true, false, false, false, false, false, false, false] rfl rfl (by kernel_rfl) (fun _ _ _ h => h) (Or.inl ⟨by rfl, ?_⟩) ?_ ?_
    rotate_left
    · intro w'
      go_simp
      with_reducible rfl
    rotate_left
    · simp only [Act.put, List.setIfInBounds_toArray, List.set_cons_zero, List.set_cons_succ, i64_w, i32_w]
      rfl
    refine take_ (i := 2) (N := some 23) (v := ?_) (a' := ?_) #[true, true, true, true, true, false, false, false, false, false, false, false] rfl rfl (by kernel_rfl) (fun _ _ _ h => h) (Or.inl ⟨by rfl, ?_⟩) hHeld ?_ ?_
    rotate_left
    · rintro w' ⟨s0, s1⟩
      go_simp
      with_reducible rfl
    rotate_left
    · simp only [Act.put, List.setIfInBounds_toArray, List.set_cons_zero, List.set_cons_succ, i64_w, i32_w]
      rfl
    refine take_ (i := 5) (N := some 26) (v := ?_) (a' := ?_) #[true, true, true, true, true, true, false, false, false, false, false, false] rfl rfl (by kernel_rfl) (fun _ _ _ h => h) (Or.inl ⟨by rfl, ?_⟩) hHeld ?_ ?_
    rotate_left
    · rintro w' ⟨s0, s1⟩
      go_simp
      with_reducible rfl
    rotate_left
    · simp only [Act.put, List.setIfInBounds_toArray, List.set_cons_zero, List.set_cons_succ, i64_w, i32_w]
      rfl
    refine one_ (i := 6) (N := some 27) #[true, true, true, true, true, true, true, false, false, false, false, false] rfl rfl (by kernel_rfl) (by decide) (fun K hK => ?_)
    refine goes_ Try.func31 (by kernel_rfl) rfl #[.slice A0 a.length c0, .slice A1 b.length c1] (by rfl) rfl rfl (by simp only [List.map_toArray, List.map_cons, List.map_nil]; rfl) ?_
    with_reducible refine (lcs_New_pair A0 c0 a A1 c1 b w3.drew (Kd.C_drew K0.out) M0.out (Kd.C_drew K1.out) M1.out la lb).mono ?_
    rintro e4 w4 ⟨gp, d, rfl, HGP, HPI, HB4⟩
    refine ⟨_, rfl, ?_⟩
    have HW4 : Aside0 (Below w3.heap.size w3 w4) := ⟨(Below.refl _ w3).drew.trans HB4.out⟩
    have y0 : w4.cell? ⟨gi, 0, none⟩ = some (.slice A0 a.length c0) := (HW4.out.cell (World.block_lt_of_cell? w3 _ x0)).trans x0
    have y1 : w4.cell? ⟨gi, 1, none⟩ = some (.slice A1 b.length c1) := (HW4.out.cell (World.block_lt_of_cell? w3 _ x1)).trans x1
    refine hK.out _ _ ⟨y0, y1⟩ (fun hHeld => ?_)
    clear hK K
    refine norm_ (a' := ?_) ?_ ?_
    rotate_left
    · show Act.put _ (some 27) _ = _
      simp only [Act.put, List.setIfInBounds_toArray, List.set_cons_zero, List.set_cons_succ, i64_w, i32_w]
      rfl
    refine pure_ (i := 7) (N := some 20) (v := ?_) (a' := ?_) #[true, true, true, true, true, true, true, true, false, false, false, false] rfl rfl (by kernel_rfl) (fun _ _ _ h => h) (Or.inl ⟨by rfl, ?_⟩) ?_ ?_
    rotate_left
    · intro w'
      go_simp
      with_reducible rfl
    rotate_left
    · simp only [Act.put, List.setIfInBounds_toArray, List.set_cons_zero, List.set_cons_succ, i64_w, i32_w]
      rfl
    refine pure_ (i := 8) (N := some 28) (v := ?_) (a' := ?_) #[true, true, true, true, true, true, true, true, true, false, false, false] rfl rfl (by kernel_rfl) (fun _ _ _ h => h) (Or.inl ⟨by rfl, ?_⟩) ?_ ?_
    rotate_left
    · intro w'
      go_simp
      with_reducible rfl
    rotate_left
    · simp only [Act.put, List.setIfInBounds_toArray, List.set_cons_zero, List.set_cons_succ, i64_w, i32_w]
      rfl
    refine pure_ (i := 9) (N := some 29) (v := ?_) (a' := ?_) #[true, true, true, true, true, true, true, true, true, true, false, false] rfl rfl (by kernel_rfl) (fun _ _ _ h => h) (Or.inl ⟨by rfl, ?_⟩) ?_ ?_
    rotate_left
    · intro w'
      go_simp
      with_reducible rfl
    rotate_left
    · simp only [Act.put, List.setIfInBounds_toArray, List.set_cons_zero, List.set_cons_succ, i64_w, i32_w]
      rfl
    refine pure_ (i := 10) (N := some 7) (v := ?_) (a' := ?_) #[true, true, true, true, true, true, true, true, true, true, true, false] rfl rfl (by kernel_rfl) (fun _ _ _ h => h) (Or.inl ⟨by rfl, ?_⟩) ?_ ?_
    rotate_left
    · intro w'
      go_simp
      with_reducible rfl
    rotate_left
    · simp only [Act.put, List.setIfInBounds_toArray, List.set_cons_zero, List.set_cons_succ, i64_w, i32_w]
      rfl
    refine pure_ (i := 11) (N := some 8) (v := ?_) (a' := ?_) #[true, true, true, true, true, true, true, true, true, true, true, true] rfl rfl (by kernel_rfl) (fun _ _ _ h => h) (Or.inl ⟨by rfl, ?_⟩) ?_ ?_
    rotate_left
    · intro w'
      go_simp
      with_reducible rfl
    rotate_left
    · simp only [Act.put, List.setIfInBounds_toArray, List.set_cons_zero, List.set_cons_succ, i64_w, i32_w]
      rfl
    refine done_ (by kernel_rfl) ?_

    clear x0 x1 y0 y1
    have hmf : ∀ (fn : Fn) (first cap : Array Value) (w : World), (Instr.makeFunc fn first cap).run Try.prog w = .ok (.func fn first cap) w := fun _ _ _ _ => rfl
    go_wp2_with fail
    refine (pair_Match gp a b d _ ((HPI.out.below (below_alloc (Below.refl _ _) _)).below (below_alloc (Below.refl _ _) _))).mono ?_
    obtain ⟨w5, hw5⟩ : ∃ w5, (w4.alloc (.cells #[.slice none 0 0] 55)).alloc (.cells #[.int .i64 0] 3) = w5 := ⟨_, rfl⟩
    have hbl5 : Below w4.heap.size w4 w5 := by rw [← hw5]; exact ((Below.refl _ _).alloc (Nat.le_refl _) _).alloc (by simp) _
    have hs5 : w5.heap.size = w4.heap.size + 2 := by rw [← hw5]; simp
    have hBo : w5.heap[w4.heap.size]? = some (.cells #[.slice none 0 0] 55 (0, 0)) := by rw [← hw5, heap_alloc_old _ _ (by simp)]; exact blk_new _ _
    have hBa : w5.heap[w4.heap.size + 1]? = some (.cells #[.int .i64 0] 3 (0, 0)) := by rw [← hw5]; have := blk_new (w4.alloc (.cells #[.slice none 0 0] 55)) (.cells #[.int .i64 0] 3); simpa using this
    rw [hw5]
    clear hw5
    rintro e6 w6 ⟨vm, rfl, hm6, hp6, hg6⟩
    have hgp : gp < w4.heap.size := by obtain ⟨_, _, _, _, _, _, q1, _⟩ := HPI.out; exact blk_lt q1
    have hgpW : W1.heap.size ≤ gp := Nat.le_trans HW3.out.size HGP.out
    have hs41 : W1.heap.size ≤ w4.heap.size := Nat.le_trans HW3.out.size HW4.out.size
    have s1 := HS1.out
    have hC6 : ComeI w w6 w.heap.size (w4.heap.size + 1) (w.heap.size + 1) w.heap.size w4.heap.size Al cl list col 0 [] (.slice none 0 0) := by
      refine ⟨?_, ?_, ?_, ⟨?_, Kd.R_nil _ _ _ _ _⟩, ?_, by omega, by omega, by omega⟩
      · exact (hg6.block _ (blk_lt hBa) (fun e => by have := Option.some.inj e; omega)).trans hBa
      · exact (hg6.block _ (by omega) (fun e => by have := Option.some.inj e; omega)).trans (keep_ (keep_ (keep_ HBL.out HW3.out) HW4.out) hbl5)
      · exact (hg6.block _ (by omega) (fun e => by have := Option.some.inj e; omega)).trans (keep_ (keep_ (keep_ HBC.out HW3.out) HW4.out) hbl5)
      · exact (hg6.block _ (blk_lt hBo) (fun e => by have := Option.some.inj e; omega)).trans hBo
      · exact below_grown (far_ (far_ (far_ HB1.out HW3.out) HW4.out) hbl5) hg6 (by omega) (by omega)
    have hR6 : RowsIn w6 B g rs e := by
      obtain ⟨v, q1, q2, q3⟩ := H.out
      have hbw6 := hC6.2.2.2.2.1
      exact ⟨v, keep_ q1 hbw6, q2, Kd.R_below q3 hbw6⟩
    have HR6 := Aside0.mk hR6
    have HC6 := Aside0.mk hC6
    have HM6 := Aside0.mk hm6
    have hsz6 : w5.heap.size ≤ w6.heap.size := hg6.size
    have HS5 := Aside0.mk hs5
    clear hR6 hC6 hm6 hp6 hg6 hBo hBa hbl5 hs5 s1
    obtain ⟨Am, cm, rfl⟩ := Kd.R_slice HM6.out
    have hml : (matchOf a b).length = rs.length := by rw [← HMG.out]; exact matchG_len rs list
    have hup : Up list.length 0 (matchOf a b) := by rw [← HMG.out]; exact matchG_up rs list
    obtain ⟨m, hm⟩ : ∃ m, matchOf a b = m := ⟨_, rfl⟩
    rw [hm] at HM6 HMG hml hup ⊢
    clear hm
    have HUP := Aside0.mk hup
    have HML := Aside0.mk hml
    rw [hml] at HM6 ⊢
    clear hup hml
    go_wp2_with fail
    obtain ⟨w4b, hw4b⟩ : ∃ n, w4.heap.size = n := ⟨_, rfl⟩
    have HW4B := Aside0.mk hw4b
    rw [hw4b] at HC6 hgp hs41 ⊢
    have HS5' : Aside0 (w5.heap.size = w4b + 2) := ⟨by rw [HS5.out, hw4b]⟩
    clear hw4b HS5
    have HCF : Aside0 (comeF col list rs = comeGo col list m rs 0) := ⟨by rw [comeF, HMG.out]⟩
    have hsw6 : w.heap.size ≤ w6.heap.size := HC6.out.2.2.2.2.1.size
    go_loopw [40] (fun i wr => ∃ (k at_ : Nat) (o : List RowG) (v : Value), k ≤ rs.length ∧ at_ ≤ list.length ∧ i = .int .i64 k ∧ o.length ≤ k + at_ ∧ Aside0 (ComeI w wr w.heap.size (w4b + 1) (w.heap.size + 1) w.heap.size w4b Al cl list col at_ o v) ∧ Aside0 (KeepsF (w4b + 1) w4b w6 wr (.slice none 0 0) v) ∧ Aside0 (Up list.length at_ (m.drop k)) ∧ Aside0 (o ++ comeGo col list (m.drop k) (rs.drop k) at_ = comeF col list rs)) (fun i _ => rs.length - (intOf i).toNat)
    case atStart => exact ⟨0, 0, [], .slice none 0 0, Nat.zero_le _, Nat.zero_le _, rfl, by simp, HC6, ⟨KeepsF.refl _ _ _ _⟩, by simpa using HUP, ⟨by rw [HCF.out]; rfl⟩⟩
    case round =>
      obtain ⟨k, at_, o, v, hk, hatl, rfl, hol, HCr, HKr, HUr, HGr⟩ := hrel
      have hbw := HCr.out.2.2.2.2.1
      by_cases hlt : k < rs.length
      · obtain ⟨gm, cmm, hev, hgmB, hgmS, mcells, hgm⟩ := Kd.R_form HM6.out (by rw [HML.out]; omega)
        injection hev with e1 e2 e3
        subst e1; subst e3
        clear e2
        have hs5 := HS5'.out
        have hmc : wr.heap[gm]? = w6.heap[gm]? := HKr.out.2.1 gm hgmS (by omega) (by omega) (by simp [Value.ownBlock])
        obtain ⟨adm, em, hcm⟩ := at_num (Kd.R_reads' HM6.out).2.2 k (by rw [HML.out]; exact hlt)
        cases em
        rw [add0_] at hcm
        replace hcm : wr.cell? ⟨gm, k, none⟩ = some (.int .i64 (m.getD k 0)) := by rw [← hcm]; simp only [World.cell?, hmc]
        have hmd : m.drop k = m.getD k 0 :: m.drop (k + 1) := by rw [List.drop_eq_getElem_cons (by rw [HML.out]; exact hlt), getD_get (by rw [HML.out]; exact hlt)]
        have hrd : rs.drop k = rs.getD k ([], ByteArray.empty) :: rs.drop (k + 1) := by rw [List.drop_eq_getElem_cons hlt, getD_get hlt]
        rw [hmd] at HUr
        rw [hmd, hrd] at HGr
        clear hmd hrd hmc hgm
        obtain ⟨vg, q1, q2, q3⟩ := H.out
        obtain ⟨gb, cg, rfl, hcg, hCk⟩ := kRow_form q3 (by omega)
        have cgc : wr.cell? ⟨g, 0, none⟩ = some (.slice (some ⟨gb, 0, none⟩) rs.length cg) := cell_blk (keep_ q1 hbw) rfl
        obtain ⟨h16, hrg⟩ := at_row hCk k hlt
        replace hrg := range_below hrg hbw
        obtain ⟨x, hx⟩ : ∃ x, rs.getD k ([], ByteArray.empty) = x := ⟨_, rfl⟩
        rw [hx] at h16 hrg HGr
        obtain ⟨mk, hmk⟩ : ∃ mk, m.getD k 0 = mk := ⟨_, rfl⟩
        rw [hmk] at hcm HUr HGr
        have HX16 := Aside0.mk h16
        have HRG : Aside0 (wr.rangeAt gb (k * 17) (rowCells x)) := ⟨hrg⟩
        have hl17 := rowCells_len h16
        have hfold := fold_row h16
        have HBW : Aside0 (w.heap.size ≤ wr.heap.size) := ⟨hbw.size⟩
        have HQ : Aside0 (w4b + 2 ≤ wr.heap.size) := ⟨Nat.le_trans (by omega) HKr.out.1⟩
        obtain ⟨Ao, co, rfl⟩ := Kd.R_slice HCr.out.2.2.2.1.2
        have HOL : Aside0 (o.length ≤ 200000) := ⟨by omega⟩
        clear q1 q2 q3 hCk hrg hx hmk h16 hbw hcg hs5
        rcases HUr.out with ⟨rfl, hu⟩ | ⟨q, rfl, hq1, hq2, hu⟩
        · have HU := Aside0.mk hu
          clear hu HUr
          go_wp2_with (first
        | ((with_reducible refine gate_dst (N := 51) rfl ?_); refine wpList_load_mid rfl 63 _ rfl gb (k * 17) (by rfl) (rowCells x) _ HRG.out Try.underlying63 rfl (size_row' HX16.out) ?_)
        | ((with_reducible refine gate_store (t := 63) (p := 14) rfl ?_); refine wpList_store_row rfl 63 14 _ rfl rfl (b := wr.heap.size) rfl rfl (c' := (rowCells x).toArray) rfl (size_row HX16.out) (by rw [show (rowCells x).toArray.size = 17 from rowCells_len HX16.out]; rfl) rowCells_one ?_; intro w1 hb1 hl1 hz1; have hc1 := ComeI.below_ HCr.out hl1 HBW.out; have co1 : w1.cell? ⟨w4b, 0, none⟩ = some (.slice Ao o.length co) := cell_blk hc1.2.2.2.1.1 rfl; have HR1 : Aside0 (Kd.R kRow 63 w1 w.heap.size (fun _ => True) (.slice Ao o.length co) o) := ⟨hc1.2.2.2.1.2⟩; have HX1 := Aside0.mk hb1; have HL1 := Aside0.mk hl1; have HC1 := Aside0.mk hc1; clear hb1 hl1 hz1 hc1)
        | ((with_reducible refine gate_dst (N := 63) rfl ?_); refine wpList_load_row rfl 63 _ rfl wr.heap.size rfl 63 (rowCells x).toArray (0, 0) _ HX1.out Try.underlying63 rfl (size_row HX16.out) ?_)
        | (at_builtin; refine Kd.R_append kRow (w0 := w) w.heap.size rfl (.tmp 62) (.tmp 64) 55 63 (.agg (rowCells (noMarks, ByteArray.empty)).toArray) 32 rfl Try.underlying55 info_row rfl (by decide) (by decide) (.slice Ao o.length co) o x (rowCells x) (fun _ => True) (fun _ => False) rfl rfl (kRow_M HX16.out) (fun _ h => h.elim) (fun _ _ => trivial) HR1.out HC1.out.2.2.2.2.1 HC1.out.2.2.2.2.1.size (by have := HOL.out; omega) ?_; intro v4 w4 hr4 hb4 hg4 hat4; obtain ⟨A4, c4, hv4⟩ := Kd.R_slice hr4; subst hv4; have h4o := (hg4.block w4b (blk_lt HC1.out.2.2.2.1.1) (Kd.R_ne HR1.out HC1.out.2.2.2.1.1 (by decide))).trans HC1.out.2.2.2.1.1; have c4o := cell_blk (j := 0) h4o rfl; have f4o : w4.frozen? ⟨w4b, 0, none⟩ = false := frozen_of_row _ _ _ _ _ h4o; have HR4 := Aside0.mk hr4; have HB4x := Aside0.mk hb4; have HG4 := Aside0.mk hg4; have HAT := Aside0.mk hat4; clear hr4 hb4 hg4 hat4 h4o)
        | ((with_reducible refine gate_store (t := 55) (p := 9) rfl ?_); refine store_at (t := 55) (p := 9) (v := .tmp 65) (w1 := w4.setCell ⟨w4b, 0, none⟩ (.slice A4 (o ++ [x]).length c4)) ?hg ?ho ?hn ?hr ?_; (case ho => rfl); (case hg => rfl); (case hn => rfl); (case hr => first | (go_simp; done) | (go_simp; rfl)); intro w5 hw5; clear c4o f4o))
          go_roundw
          case measure => simp [intOf]; omega
          case rel => exact ⟨k + 1, at_, o ++ [x], _, by omega, hatl, by go_num, by simp; omega, ⟨HC1.out.put HG4.out HR4.out HB4x.out hw5⟩, ⟨HKr.out.trans ((KeepsF.below HL1.out).trans (KeepsF.put HG4.out HAT.out hw5))⟩, HU, ⟨by rw [← HGr.out, comeGo_no]; simp⟩⟩
        · have HU := Aside0.mk hu
          clear hu HUr
          have hvlt := Kd.R_lt HCr.out.2.2.2.1.2
          have HVLT := Aside0.mk hvlt
          clear hvlt
          go_wp2_with (first
        | ((with_reducible refine gate_dst (N := 51) rfl ?_); refine wpList_load_mid rfl 63 _ rfl gb (k * 17) (by rfl) (rowCells x) _ HRG.out Try.underlying63 rfl (size_row' HX16.out) ?_)
        | ((with_reducible refine gate_store (t := 63) (p := 14) rfl ?_); refine wpList_store_row rfl 63 14 _ rfl rfl (b := wr.heap.size) rfl rfl (c' := (rowCells x).toArray) rfl (size_row HX16.out) (by rw [show (rowCells x).toArray.size = 17 from rowCells_len HX16.out]; rfl) rowCells_one ?_; intro w1 hb1 hl1 hz1; have hc1 := ComeI.below_ HCr.out hl1 HBW.out;  have HX1 := Aside0.mk hb1; have HL1 := Aside0.mk hl1; have HC1 := Aside0.mk hc1; clear hb1 hl1 hz1 hc1))
          refine (fresh_calls w w1 w.heap.size (w4b + 1) (w.heap.size + 1) w.heap.size w4b Al cl list col at_ q o _ HC.out rfl HC1.out hcol (by omega) hq1 hl (by have := HOL.out; omega)).mono ?_
          rintro e7 wf ⟨vf, rfl, HCf, HBf, HKf⟩
          obtain ⟨of, hof⟩ : ∃ of, o ++ ((list.take q).drop at_).map (oneRow col) = of := ⟨_, rfl⟩
          have HOF := Aside0.mk hof
          have hofl : of.length = o.length + (q - at_) := by rw [← hof]; simp; omega
          rw [hof] at HCf
          have HXf : Aside0 (wf.heap[wr.heap.size]? = some (.cells (rowCells x).toArray 63 (0, 0))) := by
            have hq := HQ.out
            refine ⟨(HKf.out.2.1 _ (blk_lt HX1.out) (by omega) (by omega) (fun e => ?_)).trans HX1.out⟩
            have := HVLT.out _ e.symm
            omega
          obtain ⟨Af, cf, rfl⟩ := Kd.R_slice HCf.out.2.2.2.1.2
          have ccf : wf.cell? ⟨w.heap.size, 0, none⟩ = some (.int .i64 (col : Int)) := cell_blk HCf.out.2.2.1 rfl
          have hcx : col < x.1.length := by rw [HX16.out]; exact hcol
          obtain ⟨xv, cxf⟩ : ∃ xv, wf.cell? ⟨wr.heap.size, col, none⟩ = some (.int .u8 xv) := ⟨_, by rw [cell_of_row _ _ _ _ _ _ HXf.out, List.getElem?_toArray]; exact rowCells_get hcx⟩
          have fxf : wf.frozen? ⟨wr.heap.size, col, none⟩ = false := frozen_of_row _ _ _ _ _ HXf.out
          obtain ⟨x', hx'⟩ : ∃ x' : RowG, (x.1.set col 1, x.2) = x' := ⟨_, rfl⟩
          have HX' := Aside0.mk hx'
          have HSET : Aside0 ((rowCells x).toArray.setIfInBounds col (.int .u8 1) = (rowCells x').toArray) := ⟨by rw [rowCells_set hcx, hx']⟩
          have h16' : x'.1.length = 16 := by rw [← hx']; simpa using HX16.out
          have HX16' := Aside0.mk h16'
          have hl17' := rowCells_len h16'
          have hfold' := fold_row h16'
          clear hfold hl17 hof hx' h16' hcx
          have HOFL := Aside0.mk hofl
          clear hofl
          go_wp2_with (first
        | ((with_reducible refine gate_store (t := 5) (p := 59) rfl ?_); refine store_at (t := 5) (p := 59) (v := .const (.int .u8 1)) (w1 := wf.setCell ⟨wr.heap.size, col, none⟩ (.int .u8 1)) ?hg ?ho ?hn ?hr ?_; (case ho => rfl); (case hg => rfl); (case hn => rfl); (case hr => first | (go_simp; done) | (go_simp; rfl)); intro wg hwg; have hxg := (after_set hwg HXf.out HSET.out).1; have hqq := HQ.out; have hwq := HBW.out; have hs1 := HS1.out; have hcg := HCf.out.set_blk hwg (by omega) (by omega) (by omega) (by omega) (vf_ne HKf.out HL1.out HVLT.out (blk_lt HX1.out)) HBW.out; have cag : wg.cell? ⟨w4b + 1, 0, none⟩ = some (.int .i64 (q : Int)) := cell_blk hcg.1 rfl; have fag : wg.frozen? ⟨w4b + 1, 0, none⟩ = false := frozen_of_row _ _ _ _ _ hcg.1; have HXg := Aside0.mk hxg; have HCg := Aside0.mk hcg; clear hxg hcg hqq hwq hs1 ccf cxf fxf)
        | ((with_reducible refine gate_store (t := 3) (p := 10) rfl ?_); refine store_at (t := 3) (p := 10) (v := .tmp 61) (w1 := wg.setCell ⟨w4b + 1, 0, none⟩ (.int .i64 ((q : Int) + 1))) ?hg ?ho ?hn ?hr ?_; (case ho => rfl); (case hg => rfl); (case hn => rfl); (case hr => first | (go_simp; done) | (go_simp; rfl)); intro wh hwh; have hxh := set_at_keep hwh HXg.out (by have := HQ.out; omega); have hch := HCg.out.set_at1 hwh; have coh : wh.cell? ⟨w4b, 0, none⟩ = some (.slice Af of.length cf) := cell_blk hch.2.2.2.1.1 rfl; have HRh : Aside0 (Kd.R kRow 63 wh w.heap.size (fun _ => True) (.slice Af of.length cf) of) := ⟨hch.2.2.2.1.2⟩; have HXh := Aside0.mk hxh; have HCh := Aside0.mk hch; clear hxh hch cag fag)
        | ((with_reducible refine gate_dst (N := 63) rfl ?_); refine wpList_load_row rfl 63 _ rfl wr.heap.size rfl 63 (rowCells x').toArray (0, 0) _ HXh.out Try.underlying63 rfl (size_row HX16'.out) ?_)
        | (at_builtin; refine Kd.R_append kRow (w0 := w) w.heap.size rfl (.tmp 62) (.tmp 64) 55 63 (.agg (rowCells (noMarks, ByteArray.empty)).toArray) 32 rfl Try.underlying55 info_row rfl (by decide) (by decide) (.slice Af of.length cf) of x' (rowCells x') (fun _ => True) (fun _ => False) rfl rfl (kRow_M HX16'.out) (fun _ h => h.elim) (fun _ _ => trivial) HRh.out HCh.out.2.2.2.2.1 HCh.out.2.2.2.2.1.size (by have := HOL.out; have := HOFL.out; omega) ?_; intro v4 w4 hr4 hb4 hg4 hat4; obtain ⟨A4, c4, hv4⟩ := Kd.R_slice hr4; subst hv4; have h4o := (hg4.block w4b (blk_lt HCh.out.2.2.2.1.1) (Kd.R_ne HRh.out HCh.out.2.2.2.1.1 (by decide))).trans HCh.out.2.2.2.1.1; have c4o := cell_blk (j := 0) h4o rfl; have f4o : w4.frozen? ⟨w4b, 0, none⟩ = false := frozen_of_row _ _ _ _ _ h4o; have HR4 := Aside0.mk hr4; have HB4x := Aside0.mk hb4; have HG4 := Aside0.mk hg4; have HAT := Aside0.mk hat4; clear hr4 hb4 hg4 hat4 h4o)
        | ((with_reducible refine gate_store (t := 55) (p := 9) rfl ?_); refine store_at (t := 55) (p := 9) (v := .tmp 65) (w1 := w4.setCell ⟨w4b, 0, none⟩ (.slice A4 (of ++ [x']).length c4)) ?hg ?ho ?hn ?hr ?_; (case ho => rfl); (case hg => rfl); (case hn => rfl); (case hr => first | (go_simp; done) | (go_simp; rfl)); intro w5 hw5; clear c4o f4o))
          go_roundw
          case measure => simp [intOf]; omega
          case rel =>
            have hlen := HOFL.out
            refine ⟨k + 1, q + 1, of ++ [x'], _, by omega, by omega, by go_num, by simp; omega, ⟨HCh.out.put HG4.out HR4.out HB4x.out hw5⟩, ⟨HKr.out.trans ?_⟩, HU, ⟨?_⟩⟩
            · exact ((((KeepsF.below HL1.out).trans HKf.out).far hwg (Nat.le_refl _)).trans (KeepsF.set_blk hwh (.inl rfl))).trans (KeepsF.put HG4.out HAT.out hw5)
            · rw [← HGr.out, comeGo_yes, ← HOF.out, HX'.out]; simp
      · have hk' : k = rs.length := by omega
        subst hk'
        have hmn : m.drop rs.length = [] := List.drop_of_length_le (by rw [HML.out]; exact Nat.le_refl _)
        rw [hmn, comeGo_nil] at HGr
        have cbl : wr.cell? ⟨w.heap.size + 1, 0, none⟩ = some (.slice Al list.length cl) := cell_blk HCr.out.2.1 rfl
        clear hmn hbw
        go_wp2_with fail
        refine (fresh_calls w wr w.heap.size (w4b + 1) (w.heap.size + 1) w.heap.size w4b Al cl list col at_ list.length o _ HC.out rfl HCr.out hcol (Nat.le_refl _) hatl hl (by omega)).mono ?_
        rintro e7 wf ⟨vf, rfl, HCf, HBf, HKf⟩
        rw [List.take_length, HGr.out] at HCf
        obtain ⟨vg, q1, q2, q3⟩ := H.out
        have hbf := HCf.out.2.2.2.2.1
        have q1f := keep_ q1 hbf
        have cgf : wf.cell? ⟨g, 0, none⟩ = some vg := cell_blk q1f rfl
        have fgf : wf.frozen? ⟨g, 0, none⟩ = false := frozen_of_row _ _ _ _ _ q1f
        obtain ⟨Af, cf, rfl⟩ := Kd.R_slice HCf.out.2.2.2.1.2
        have cof : wf.cell? ⟨w4b, 0, none⟩ = some (.slice Af (comeF col list rs).length cf) := cell_blk HCf.out.2.2.2.1.1 rfl
        have Q1F := Aside0.mk q1f
        clear q1 q3 q1f hbf cbl
        go_wp2
        go_end0
        rw [HCS.out]
        refine ⟨rfl, ⟨⟨_, (after_set ⟨rfl⟩ Q1F.out rfl).1, q2, Kd.R_set (Kd.R_lower HCf.out.2.2.2.1.2 hB) Q1F.out (by decide) _ _⟩⟩, ⟨(HCf.out.2.2.2.2.1.mono hB).setCell (p := ⟨g, 0, none⟩) q2 _⟩⟩
  · have HCS : Aside0 (comeS col list rs e = (rs, 4)) := ⟨if_neg hok⟩
    have hlong : 2000 < a.length ∨ 2000 < b.length := by rw [HLA.out, HLB.out]; omega
    have z0 := C_cap K0.out
    have n0 := Kd.C_max K0.out
    have n1 := Kd.C_max K1.out
    obtain ⟨v, hg1, hg2, hg3⟩ := HR3.out
    have cg : w3.cell? ⟨g, 1, none⟩ = some (.int .i64 e) := cell_blk hg1 rfl
    have fg : w3.frozen? ⟨g, 1, none⟩ = false := frozen_of_row _ _ _ _ _ hg1
    have HG1 := Aside0.mk hg1
    have HG3 := Aside0.mk hg3
    clear hg1 hg3 z0
    go_wp2
    refine start_ (n := 12) (S := fun w' => w'.cell? ⟨gi, 0, none⟩ = some (.slice A0 a.length c0) ∧ w'.cell? ⟨gi, 1, none⟩ = some (.slice A1 b.length c1)) (ds := []) #[false, false, false, false, false, false, false, false, false, false, false, false] (by kernel_rfl) rfl rfl ⟨x0, x1⟩ (fun hHeld => ?_)
    refine pure_ (i := 0) (N := some 21) (v := ?_) (a' := ?_) #[true, false, false, false, false, false, false, false, false, false, false, false] rfl rfl (by kernel_rfl) (fun _ _ _ h => h) (Or.inl ⟨by rfl, ?_⟩) ?_ ?_
    rotate_left
    · intro w'
      go_simp
      with_reducible rfl
    rotate_left
    · simp only [Act.put, List.setIfInBounds_toArray, List.set_cons_zero, List.set_cons_succ, i64_w, i32_w]
      rfl
    refine pure_ (i := 1) (N := some 22) (v := ?_) (a' := ?_) #[true, true, false, false, false, false, false, false, false, false, false, false] rfl rfl (by kernel_rfl) (fun _ _ _ h => h) (Or.inl ⟨by rfl, ?_⟩) ?_ ?_
    rotate_left
    · intro w'
      go_simp
      with_reducible rfl
    rotate_left
    · simp only [Act.put, List.setIfInBounds_toArray, List.set_cons_zero, List.set_cons_succ, i64_w, i32_w]
      rfl
    refine pure_ (i := 3) (N := some 24) (v := ?_) (a' := ?_) #[true, true, false, true, false, false, false, false, false, false, false, false] rfl rfl (by kernel_rfl) (fun _ _ _ h => h) (Or.inl ⟨by rfl, ?_⟩) ?_ ?_
    rotate_left
    · intro w'
      go_simp
      with_reducible rfl
    rotate_left
    · simp only [Act.put, List.setIfInBounds_toArray, List.set_cons_zero, List.set_cons_succ, i64_w, i32_w]
      rfl
    refine pure_ (i := 4) (N := some 25) (v := ?_) (a' := ?_) #[true, true, false, true, true, false, false, false, false, false, false, false] rfl rfl (by kernel_rfl) (fun _ _ _ h => h) (Or.inl ⟨by rfl, ?_⟩) ?_ ?_
    rotate_left
    · intro w'
      go_simp
      with_reducible rfl
    rotate_left
    · simp only [Act.put, List.setIfInBounds_toArray, List.set_cons_zero, List.set_cons_succ, i64_w, i32_w]
      rfl
    refine take_ (i := 2) (N := some 23) (v := ?_) (a' := ?_) #[true, true, true, true, true, false, false, false, false, false, false, false] rfl rfl (by kernel_rfl) (fun _ _ _ h => h) (Or.inl ⟨by rfl, ?_⟩) hHeld ?_ ?_
    rotate_left
    · rintro w' ⟨s0, s1⟩
      go_simp
      with_reducible rfl
    rotate_left
    · simp only [Act.put, List.setIfInBounds_toArray, List.set_cons_zero, List.set_cons_succ, i64_w, i32_w]
      rfl
    refine take_ (i := 5) (N := some 26) (v := ?_) (a' := ?_) #[true, true, true, true, true, true, false, false, false, false, false, false] rfl rfl (by kernel_rfl) (fun _ _ _ h => h) (Or.inl ⟨by rfl, ?_⟩) hHeld ?_ ?_
    rotate_left
    · rintro w' ⟨s0, s1⟩
      go_simp
      with_reducible rfl
    rotate_left
    · simp only [Act.put, List.setIfInBounds_toArray, List.set_cons_zero, List.set_cons_succ, i64_w, i32_w]
      rfl
    refine one_ (i := 6) (N := some 27) #[true, true, true, true, true, true, true, false, false, false, false, false] rfl rfl (by kernel_rfl) (by decide) (fun K hK => ?_)
    refine goes_ Try.func31 (by kernel_rfl) rfl #[.slice A0 a.length c0, .slice A1 b.length c1] (by rfl) rfl rfl (by simp only [List.map_toArray, List.map_cons, List.map_nil]; rfl) ?_
    with_reducible refine (lcs_New_long A0 c0 a A1 c1 b w3.drew n0 n1 hlong).mono ?_
    rintro e4 w4 ⟨rfl, rfl⟩
    refine ⟨_, rfl, ?_⟩
    refine hK.out _ _ ⟨x0, x1⟩ (fun hHeld => ?_)
    clear hK K
    refine norm_ (a' := ?_) ?_ ?_
    rotate_left
    · show Act.put _ (some 27) _ = _
      simp only [Act.put, List.setIfInBounds_toArray, List.set_cons_zero, List.set_cons_succ, i64_w, i32_w]
      rfl
    refine pure_ (i := 7) (N := some 20) (v := ?_) (a' := ?_) #[true, true, true, true, true, true, true, true, false, false, false, false] rfl rfl (by kernel_rfl) (fun _ _ _ h => h) (Or.inl ⟨by rfl, ?_⟩) ?_ ?_
    rotate_left
    · intro w'
      go_simp
      with_reducible rfl
    rotate_left
    · simp only [Act.put, List.setIfInBounds_toArray, List.set_cons_zero, List.set_cons_succ, i64_w, i32_w]
      rfl
    refine pure_ (i := 8) (N := some 28) (v := ?_) (a' := ?_) #[true, true, true, true, true, true, true, true, true, false, false, false] rfl rfl (by kernel_rfl) (fun _ _ _ h => h) (Or.inl ⟨by rfl, ?_⟩) ?_ ?_
    rotate_left
    · intro w'
      go_simp
      with_reducible rfl
    rotate_left
    · simp only [Act.put, List.setIfInBounds_toArray, List.set_cons_zero, List.set_cons_succ, i64_w, i32_w]
      rfl
    refine pure_ (i := 9) (N := some 29) (v := ?_) (a' := ?_) #[true, true, true, true, true, true, true, true, true, true, false, false] rfl rfl (by kernel_rfl) (fun _ _ _ h => h) (Or.inl ⟨by rfl, ?_⟩) ?_ ?_
    rotate_left
    · intro w'
      go_simp
      with_reducible rfl
    rotate_left
    · simp only [Act.put, List.setIfInBounds_toArray, List.set_cons_zero, List.set_cons_succ, i64_w, i32_w]
      rfl
    refine pure_ (i := 10) (N := some 7) (v := ?_) (a' := ?_) #[true, true, true, true, true, true, true, true, true, true, true, false] rfl rfl (by kernel_rfl) (fun _ _ _ h => h) (Or.inl ⟨by rfl, ?_⟩) ?_ ?_
    rotate_left
    · intro w'
      go_simp
      with_reducible rfl
    rotate_left
    · simp only [Act.put, List.setIfInBounds_toArray, List.set_cons_zero, List.set_cons_succ, i64_w, i32_w]
      rfl
    refine pure_ (i := 11) (N := some 8) (v := ?_) (a' := ?_) #[true, true, true, true, true, true, true, true, true, true, true, true] rfl rfl (by kernel_rfl) (fun _ _ _ h => h) (Or.inl ⟨by rfl, ?_⟩) ?_ ?_
    rotate_left
    · intro w'
      go_simp
      with_reducible rfl
    rotate_left
    · simp only [Act.put, List.setIfInBounds_toArray, List.set_cons_zero, List.set_cons_succ, i64_w, i32_w]
      rfl
    refine done_ (by kernel_rfl) ?_

    go_wp2
    refine bodyPost_ret (v := .tuple #[]) (by simp [results, Try.results39, go_sem]) rfl ?_
    rw [HCS.out]
    refine ⟨rfl, ⟨⟨v, (after_set ⟨rfl⟩ HG1.out rfl).1, hg2, Kd.R_set HG3.out HG1.out (by decide) _ _⟩⟩, ⟨?_⟩⟩
    exact (((HB1.out.mono hB).trans (HW3.out.mono (Nat.le_trans hB HB1.out.size)) |>.drew)).setCell (p := ⟨g, 1, none⟩) hg2 _
end Go.Proofs.Ytnlekganlliikaa.X
-- part XGap4
namespace Go.Proofs.Ytnlekganlliikaa.X
open Go.RowKit Go.Proofs.YtnlekganlliikaaW.PrintWords Go.Proofs.YtnlekganlliikaaW.PrintLast Go.Proofs.YtnlekganlliikaaW.PrintMore
set_option linter.unusedVariables false
set_option linter.unusedSimpArgs false
/-- The rows, and the error, when lists come one behind the other, from column i on. -/
def eachG : Nat → List (List ByteArray) → List RowG → Int → List RowG × Int
  | _, [], rs, e => (rs, e)
  | i, l :: ls, rs, e => eachG (i + 1) ls (comeS i l rs e).1 (comeS i l rs e).2
theorem eachG_snoc : ∀ (ls : List (List ByteArray)) (i : Nat) (l : List ByteArray) (rs : List RowG) (e : Int),
    eachG i (ls ++ [l]) rs e = comeS (i + ls.length) l (eachG i ls rs e).1 (eachG i ls rs e).2
  | [], i, l, rs, e => by simp [eachG]
  | x :: ls, i, l, rs, e => by
    rw [List.cons_append, eachG, eachG_snoc ls, eachG, List.length_cons, show i + 1 + ls.length = i + (ls.length + 1) by omega]
theorem comeGo_all (P : ByteArray → Prop) (col : Nat) (list : List ByteArray) (h : ∀ s ∈ list, P s) : ∀ (ms : List Int) (rs : List RowG) (a : Nat), (∀ x ∈ rs, P x.2) → ∀ x ∈ comeGo col list ms rs a, P x.2
  | [], rs, a, hr => by
    rw [comeGo_nil]
    intro x hx
    obtain ⟨s, hs, rfl⟩ := List.mem_map.1 hx
    exact h s (List.mem_of_mem_drop hs)
  | m :: ms, [], a, hr => by
    intro x hx
    obtain ⟨s, hs, rfl⟩ := List.mem_map.1 hx
    exact h s (List.mem_of_mem_drop hs)
  | m :: ms, y :: rs, a, hr => by
    have ih := comeGo_all P col list h ms rs
    intro x hx
    have hy := hr y List.mem_cons_self
    have hr' : ∀ x ∈ rs, P x.2 := fun x hx => hr x (List.mem_cons_of_mem _ hx)
    rw [comeGo] at hx
    split at hx
    · rcases List.mem_append.1 hx with hx | hx
      · obtain ⟨s, hs, rfl⟩ := List.mem_map.1 hx
        exact h s (List.mem_of_mem_take (List.mem_of_mem_drop hs))
      · rcases List.mem_cons.1 hx with rfl | hx
        · exact hy
        · exact ih _ hr' x hx
    · rcases List.mem_cons.1 hx with rfl | hx
      · exact hy
      · exact ih _ hr' x hx
/-- What holds of rows all along: few, and their texts. -/
def RowsOk (P : ByteArray → Prop) (rs : List RowG) : Prop := rs.length ≤ 4000 ∧ ∀ x ∈ rs, P x.2
theorem comeS_ok {P : ByteArray → Prop} {col : Nat} {list : List ByteArray} {rs : List RowG} {e : Int} (h : ∀ s ∈ list, P s) (hr : RowsOk P rs) : RowsOk P (comeS col list rs e).1 := by
  rw [comeS]
  split
  · rename_i hk
    exact ⟨by have := comeF_len col list rs; show (comeF col list rs).length ≤ 4000; omega, comeGo_all P col list h _ _ _ hr.2⟩
  · exact hr
theorem eachG_ok {P : ByteArray → Prop} : ∀ (ls : List (List ByteArray)) (i : Nat) (rs : List RowG) (e : Int), (∀ l ∈ ls, ∀ s ∈ l, P s) → RowsOk P rs → RowsOk P (eachG i ls rs e).1
  | [], i, rs, e, _, hr => hr
  | l :: ls, i, rs, e, h, hr => eachG_ok ls (i + 1) _ _ (fun l hl => h l (List.mem_cons_of_mem _ hl)) (comeS_ok (h l List.mem_cons_self) hr)

set_option maxRecDepth 100000 in
set_option maxHeartbeats 4000000 in
theorem gap_each (g B c : Nat) (A : Option Addr) (lists : List (List ByteArray)) (w0 w : World) (h : RowsIn w B g [] 0) (hC : Kd.C (Kd.slice 9 Kd.string) w0 A lists.length lists) (hc : lists.length ≤ c) (hcol : lists.length ≤ 16)
    (hl : ∀ l ∈ lists, l.length ≤ 100000) (hz : ∀ l ∈ lists, ∀ s ∈ l, s.size ≤ maxLen) (hB : B = w0.heap.size) (hw : Below B w0 w) :
    Calls Try.prog 38 #[.slice A lists.length c, .func (.func 39) #[.pointer (some ⟨g, 0, none⟩)] #[]] w fun e' w' => e' = .returned (.tuple #[]) ∧
      Aside0 (RowsIn w' B g (eachG 0 lists [] 0).1 (eachG 0 lists [] 0).2) ∧ Aside0 (Below B w w') := by
  have HC := Aside0.mk hC
  have HL := Aside0.mk hl
  have HZ := Aside0.mk hz
  have HB := Aside0.mk hB
  have HW := Aside0.mk hw
  have HI := Aside0.mk h
  clear hC hl hz hB hw h
  go_enter Try.func38, Try.ntmps38
  go_wp2_with fail
  go_loopw [8] (fun i wr => ∃ k : Nat, k ≤ lists.length ∧ i = .int .i64 k ∧ Aside0 (RowsIn wr B g (eachG 0 (lists.take k) [] 0).1 (eachG 0 (lists.take k) [] 0).2) ∧ Aside0 (Below B w wr)) (fun i _ => lists.length - (intOf i).toNat)
  case atStart => exact ⟨0, Nat.zero_le _, rfl, HI, ⟨Below.refl _ _⟩⟩
  case round =>
    obtain ⟨k, hk, rfl, HIr, HBr⟩ := hrel
    by_cases hlt : k < lists.length
    · obtain ⟨ad, A5, c5, rfl, hrow, hc5, hC5⟩ := at_slice HC.out k hlt
      have HWr : Aside0 (Below B w0 wr) := ⟨HW.out.trans HBr.out⟩
      have HW2 : Aside0 (Below w0.heap.size w0 wr) := ⟨by rw [← HB.out]; exact HWr.out⟩
      replace hrow := (HW2.out.cell (World.block_lt_of_cell? w0 _ hrow)).trans hrow
      obtain ⟨l, hle⟩ : ∃ l, lists.getD k [] = l := ⟨_, rfl⟩
      have htk : lists.take (k + 1) = lists.take k ++ [l] := by rw [← hle, getD_get hlt, List.take_append_getElem hlt]
      have hlm : l ∈ lists := by rw [← hle, getD_get hlt]; exact List.getElem_mem hlt
      rw [hle] at hrow hc5 hC5
      have HC5 : Aside0 (Kd.C Kd.string wr A5 l.length l) := ⟨Kd.C_below hC5 HW2.out⟩
      have Hc5 := Aside0.mk hc5
      have HLM := Aside0.mk hlm
      have HTK := Aside0.mk htk
      have HOK : Aside0 (RowsOk (fun s => s.size ≤ maxLen) (eachG 0 (lists.take k) [] 0).1) := ⟨eachG_ok _ _ _ _ (fun l hl => HZ.out l (List.mem_of_mem_take hl)) ⟨by simp, by simp⟩⟩
      have HSN : Aside0 (eachG 0 (lists.take (k + 1)) [] 0 = comeS k l (eachG 0 (lists.take k) [] 0).1 (eachG 0 (lists.take k) [] 0).2) := ⟨by
        rw [htk, eachG_snoc, List.length_take_of_le hk, Nat.zero_add]⟩
      clear hc5 hC5 hle htk hlm
      go_wp2_with fail
      refine (rows_come g B k _ _ A5 c5 l _ HIr.out HC5.out Hc5.out (by omega) (by have := HOK.out.1; omega) (HL.out l HLM.out) HOK.out.2 (HZ.out l HLM.out) (by rw [HB.out]; exact HW2.out.size)).mono ?_
      rintro e' w' ⟨rfl, HI', HB'⟩
      go_wp2
      go_roundw
      case measure => simp [intOf]; omega
      case rel => exact ⟨k + 1, by omega, by go_num, by rw [HSN.out]; exact HI', ⟨HBr.out.trans HB'.out⟩⟩
    · have hk' : k = lists.length := by omega
      subst hk'
      rw [List.take_length] at HIr
      go_wp2
      go_end0
      exact ⟨rfl, HIr, HBr⟩
end Go.Proofs.Ytnlekganlliikaa.X
-- part XGap5
namespace Go.Proofs.Ytnlekganlliikaa.X
open Go.RowKit Go.Proofs.YtnlekganlliikaaW.PrintWords Go.Proofs.YtnlekganlliikaaW.PrintLast Go.Proofs.YtnlekganlliikaaW.PrintMore
set_option linter.unusedVariables false
set_option linter.unusedSimpArgs false
/-- Marks are 0 or 1. -/
def Bits (x : RowG) : Prop := ∀ m ∈ x.1, m = 0 ∨ m = 1
theorem oneRow_bits (col : Nat) (s : ByteArray) : Bits (oneRow col s) := by
  intro m hm
  rcases List.mem_or_eq_of_mem_set hm with h | h
  · exact .inl (List.eq_of_mem_replicate h)
  · exact .inr h
theorem set_bits {x : RowG} (col : Nat) (h : Bits x) : Bits (x.1.set col 1, x.2) := by
  intro m hm
  rcases List.mem_or_eq_of_mem_set hm with h' | h'
  · exact h m h'
  · exact .inr h'
theorem comeGo_bits (col : Nat) (list : List ByteArray) : ∀ (ms : List Int) (rs : List RowG) (a : Nat), (∀ x ∈ rs, Bits x) → ∀ x ∈ comeGo col list ms rs a, Bits x
  | [], rs, a, hr => by
    rw [comeGo_nil]
    intro x hx
    obtain ⟨s, hs, rfl⟩ := List.mem_map.1 hx
    exact oneRow_bits _ _
  | m :: ms, [], a, hr => by
    intro x hx
    obtain ⟨s, hs, rfl⟩ := List.mem_map.1 hx
    exact oneRow_bits _ _
  | m :: ms, y :: rs, a, hr => by
    have ih := comeGo_bits col list ms rs
    intro x hx
    have hy := hr y List.mem_cons_self
    have hr' : ∀ x ∈ rs, Bits x := fun x hx => hr x (List.mem_cons_of_mem _ hx)
    rw [comeGo] at hx
    split at hx
    · rcases List.mem_append.1 hx with hx | hx
      · obtain ⟨s, hs, rfl⟩ := List.mem_map.1 hx
        exact oneRow_bits _ _
      · rcases List.mem_cons.1 hx with rfl | hx
        · exact set_bits _ hy
        · exact ih _ hr' x hx
    · rcases List.mem_cons.1 hx with rfl | hx
      · exact hy
      · exact ih _ hr' x hx
theorem eachG_bits : ∀ (ls : List (List ByteArray)) (i : Nat) (rs : List RowG) (e : Int), (∀ x ∈ rs, Bits x) → ∀ x ∈ (eachG i ls rs e).1, Bits x
  | [], i, rs, e, hr => hr
  | l :: ls, i, rs, e, hr => by
    refine eachG_bits ls (i + 1) _ _ ?_
    rw [comeS]
    split
    · exact comeGo_bits _ _ _ _ _ hr
    · exact hr
def markB (m : Int) : UInt8 := if m = 0 then 32 else 45
def rowOut (n : Nat) (x : RowG) : S37 := ⟨⟨((x.1.map markB).take n).toArray⟩, x.2⟩
def gapF (lists : List (List ByteArray)) : List S37 × Int :=
  if 16 < lists.length then ([], 1) else if (eachG 0 lists [] 0).2 ≠ 0 then ([], (eachG 0 lists [] 0).2) else ((eachG 0 lists [] 0).1.map (rowOut lists.length), 0)
def gap_Coalesce.f (l0 : List (List ByteArray)) : Option (List S37 × Int) :=
  if ∀ l ∈ l0, l.length ≤ 100000 ∧ ∀ s ∈ l, s.size ≤ maxLen then some (gapF l0) else none
theorem bytes_snoc (x : RowG) (j : Nat) (h : j < x.1.length) (m : Int) (c : Int) (hm : x.1.getD j 0 = m) (hc : ((markB m).toNat : Int) = c) :
    Lib.byteCells ((x.1.take (j + 1)).map markB) = Lib.byteCells ((x.1.take j).map markB) ++ [.int .u8 c] := by
  have e : x.1.take (j + 1) = x.1.take j ++ [m] := by rw [← hm, getD_get h, List.take_append_getElem h]
  rw [e, List.map_append, ← hc]
  simp only [Lib.byteCells, List.map_append, List.map_cons, List.map_nil]

set_option maxRecDepth 100000 in
set_option maxHeartbeats 8000000 in
theorem gap_Coalesce.calls (A0 : Option Addr) (c0 : Nat) (l0 : List (List ByteArray)) (r1 : List S37) (r2 : Int) (w : World) (hr0 : Kd.C (Kd.slice 9 Kd.string) w A0 l0.length l0) (hc0 : l0.length ≤ c0) (h : gap_Coalesce.f l0 = some (r1, r2)) :
    Calls Try.prog 17 #[.slice A0 l0.length c0] w fun e w' => ∃ v0_ : Value, e = .returned (.tuple #[v0_, .int .i64 r2]) ∧ Kd.R k37 37 w' w.heap.size (fun _ => True) v0_ r1 ∧ Below w.heap.size w w' := by
  have HR0 := Aside0.mk hr0
  have HC0 := Aside0.mk hc0
  clear hr0 hc0
  unfold gap_Coalesce.f at h
  split at h
  · rename_i hf
    have HF := Aside0.mk hf
    clear hf
    have H : Aside0 (gapF l0 = (r1, r2)) := ⟨Option.some.inj h⟩
    clear h
    have hn := Kd.C_max HR0.out
    by_cases h16 : 16 < l0.length
    · have e : gapF l0 = ([], 1) := if_pos h16
      rw [e] at H
      obtain ⟨rfl, rfl⟩ := Prod.mk.inj H.out
      clear H e
      go_enter Try.func17, Try.ntmps17
      go_wp2
      go_ret2
      exact ⟨_, rfl, Kd.R_nil _ _ _ _ _, Below.refl _ _⟩
    · go_enter Try.func17, Try.ntmps17
      go_wp2_with fail
      have hbl := Below.alloc (Below.refl w.heap.size w) (Nat.le_refl _) (.cells #[.slice none 0 0, .int .i64 0] 57)
      have hI : RowsIn (w.alloc (.cells #[.slice none 0 0, .int .i64 0] 57)) w.heap.size w.heap.size [] 0 := ⟨_, blk_new _ _, Nat.le_refl _, Kd.R_nil _ _ _ _ _⟩
      refine (gap_each w.heap.size w.heap.size c0 A0 l0 w _ hI HR0.out HC0.out (by omega) (fun l hl => (HF.out l hl).1) (fun l hl => (HF.out l hl).2) rfl hbl).mono ?_
      rintro e2 w2 ⟨rfl, HI2, HB2⟩
      have HOK : Aside0 (RowsOk (fun s => s.size ≤ maxLen) (eachG 0 l0 [] 0).1) := ⟨eachG_ok _ _ _ _ (fun l hl => (HF.out l hl).2) ⟨by simp, by simp⟩⟩
      have HBI : Aside0 (∀ x ∈ (eachG 0 l0 [] 0).1, Bits x) := ⟨eachG_bits _ _ _ _ (by simp)⟩
      have HG : Aside0 (gapF l0 = if (eachG 0 l0 [] 0).2 ≠ 0 then ([], (eachG 0 l0 [] 0).2) else ((eachG 0 l0 [] 0).1.map (rowOut l0.length), 0)) := ⟨if_neg h16⟩
      rw [H.out] at HG
      obtain ⟨rs, hrs⟩ : ∃ rs, (eachG 0 l0 [] 0).1 = rs := ⟨_, rfl⟩
      obtain ⟨er, her⟩ : ∃ er, (eachG 0 l0 [] 0).2 = er := ⟨_, rfl⟩
      rw [hrs, her] at HI2 HG
      rw [hrs] at HOK HBI
      have HB : Aside0 (Below w.heap.size w w2) := ⟨hbl.trans HB2.out⟩
      clear hrs her hI hbl HB2
      obtain ⟨vg, q1, q2, q3⟩ := HI2.out
      have cg0 : w2.cell? ⟨w.heap.size, 0, none⟩ = some vg := cell_blk q1 rfl
      have cg1 : w2.cell? ⟨w.heap.size, 1, none⟩ = some (.int .i64 er) := cell_blk q1 rfl
      have Q3 := Aside0.mk q3
      clear q1 q2 q3
      have hlen := HOK.out.1
      by_cases he : er = 0
      · subst he
        rw [if_neg (by simp)] at HG
        obtain ⟨rfl, rfl⟩ := Prod.mk.inj HG.out
        clear HG H
        obtain ⟨Ag, cgp, rfl⟩ := Kd.R_slice Q3.out
        go_wp2_with fail
        go_loopw [5, 34] (fun o i wr => ∃ k : Nat, k ≤ rs.length ∧ i = .int .i64 k ∧ Aside0 (Kd.R k37 37 wr w2.heap.size (fun _ => True) o ((rs.take k).map (rowOut l0.length))) ∧ Aside0 (Below w2.heap.size w2 wr)) (fun _ i _ => rs.length - (intOf i).toNat)
        case atStart => exact ⟨0, Nat.zero_le _, rfl, ⟨Kd.R_nil _ _ _ _ _⟩, ⟨Below.refl _ _⟩⟩
        case round =>
          obtain ⟨k, hk, rfl, HO, HBr⟩ := hrel
          obtain ⟨wq, rfl⟩ : ∃ wq, wq = wr := ⟨_, rfl⟩
          by_cases hlt : k < rs.length
          · obtain ⟨gb, cap, hev, _, hCk⟩ := kRow_form Q3.out (by omega)
            injection hev with e1 e2 e3
            subst e1; subst e3
            clear e2
            obtain ⟨h16r, hrg⟩ := at_row hCk k hlt
            replace hrg := range_below hrg HBr.out
            have htk : rs.take (k + 1) = rs.take k ++ [rs.getD k ([], ByteArray.empty)] := by rw [getD_get hlt, List.take_append_getElem hlt]
            have hxm : rs.getD k ([], ByteArray.empty) ∈ rs := by rw [getD_get hlt]; exact List.getElem_mem hlt
            have hbx := HBI.out _ hxm
            obtain ⟨x, hx⟩ : ∃ x, rs.getD k ([], ByteArray.empty) = x := ⟨_, rfl⟩
            rw [hx] at h16r hrg htk hbx
            have HX16 := Aside0.mk h16r
            have HRG : Aside0 (wq.rangeAt gb (k * 17) (rowCells x)) := ⟨hrg⟩
            have HTK := Aside0.mk htk
            have HBX := Aside0.mk hbx
            have hl17 := rowCells_len h16r
            have hfold := fold_row h16r
            obtain ⟨Ao, co, rfl⟩ := Kd.R_slice HO.out
            have HNO : Aside0 (((rs.take k).map (rowOut l0.length)).length = k) := ⟨by simp; omega⟩
            rw [HNO.out] at HO ⊢
            clear hrg hx hxm htk hbx hCk h16r
            go_wp2_with (first
              | ((with_reducible refine gate_dst (N := 37) rfl ?_); refine wpList_load_mid rfl 63 _ rfl gb (k * 17) (by rfl) (rowCells x) _ HRG.out Try.underlying63 rfl (size_row' HX16.out) ?_)
              | ((with_reducible refine gate_store (t := 63) (p := 7) rfl ?_); refine wpList_store_row rfl 63 7 _ rfl rfl (b := wq.heap.size) rfl rfl (c' := (rowCells x).toArray) rfl (size_row HX16.out) (by rw [show (rowCells x).toArray.size = 17 from rowCells_len HX16.out]; rfl) rowCells_one ?_; intro w3 hb3 hl3 hz3; have HX3 := Aside0.mk hb3; have HL3 := Aside0.mk hl3; clear hb3 hl3 hz3))
            have hx16 := HX16.out
            go_loopw [43] (fun i wr => ∃ j : Nat, j ≤ l0.length ∧ i = .int .i64 j ∧ Aside0 (Lib.IsBuilder 67 5 w3.heap.size w3.heap.size (Lib.byteCells ((x.1.take j).map markB)) wr) ∧ Aside0 (Below w3.heap.size w3 wr)) (fun i _ => l0.length - (intOf i).toNat)
            case atStart => exact ⟨0, Nat.zero_le _, rfl, ⟨Lib.fresh_isBuilder _ _ _⟩, ⟨(Below.refl _ w3).alloc (Nat.le_refl _) _⟩⟩
            case round =>
              obtain ⟨j, hj, rfl, HIj, HBj⟩ := hrel
              have HXj : Aside0 (wr.heap[wq.heap.size]? = some (.cells (rowCells x).toArray 63 (0, 0))) := ⟨keep_ HX3.out HBj.out⟩
              by_cases hjl : j < l0.length
              · have hjx : j < x.1.length := by omega
                have hm01 := HBX.out _ (List.getElem_mem hjx)
                have hcj : wr.cell? ⟨wq.heap.size, j, none⟩ = some (.int .u8 (x.1.getD j 0)) := by rw [cell_of_row _ _ _ _ _ _ HXj.out, List.getElem?_toArray, getD_get hjx]; exact rowCells_get hjx
                rw [← getD_get (d := 0) hjx] at hm01
                obtain ⟨m, hm⟩ : ∃ m, x.1.getD j 0 = m := ⟨_, rfl⟩
                rw [hm] at hm01 hcj
                rcases hm01 with rfl | rfl
                · go_wp2_with fail
                  refine (writeByte_calls _ _ _ _ _ HIj.out (by rw [Lib.byteCells_length]; simp; omega) (by have := HBj.out.size; omega)).mono ?_
                  rintro e5 w5 ⟨rfl, h5, hb5⟩
                  have H5 := Aside0.mk h5
                  have HB5 := Aside0.mk hb5
                  clear h5 hb5
                  go_wp2
                  go_roundw
                  case measure => simp [intOf]; omega
                  case rel => exact ⟨j + 1, by omega, by go_num, ⟨by rw [bytes_snoc x j hjx _ _ hm rfl]; exact .inr H5.out⟩, ⟨HBj.out.trans HB5.out⟩⟩
                · go_wp2_with fail
                  refine (writeByte_calls _ _ _ _ _ HIj.out (by rw [Lib.byteCells_length]; simp; omega) (by have := HBj.out.size; omega)).mono ?_
                  rintro e5 w5 ⟨rfl, h5, hb5⟩
                  have H5 := Aside0.mk h5
                  have HB5 := Aside0.mk hb5
                  clear h5 hb5
                  go_wp2
                  go_roundw
                  case measure => simp [intOf]; omega
                  case rel => exact ⟨j + 1, by omega, by go_num, ⟨by rw [bytes_snoc x j hjx _ _ hm rfl]; exact .inr H5.out⟩, ⟨HBj.out.trans HB5.out⟩⟩
              · have hj' : j = l0.length := by omega
                subst hj'
                have HWj : Aside0 (Below wq.heap.size wq wr) := ⟨far_ HL3.out HBj.out⟩
                have HOj : Aside0 (Kd.R k37 37 wr w2.heap.size (fun _ => True) (.slice Ao k co) ((rs.take k).map (rowOut l0.length))) := ⟨Kd.R_below HO.out HWj.out⟩
                have h16c : (rowCells x).toArray[16]? = some (.string x.2) := by simpa using rowCells_text HX16.out
                have xj : wr.cell? ⟨wq.heap.size, 16, none⟩ = some (.string x.2) := cell_blk HXj.out h16c
                have HSB : Aside0 (w3.heap.size ≤ wr.drew.heap.size) := ⟨HBj.out.drew.size⟩
                have HL3s : Aside0 (wq.heap.size < w3.heap.size) := ⟨blk_lt HX3.out⟩
                have HB2j : Aside0 (Below w2.heap.size w2 wr) := ⟨HBr.out.trans (HWj.out.mono HBr.out.size)⟩
                have HIDw : Aside0 (Lib.IsBuilder 67 5 w3.heap.size w3.heap.size (Lib.byteCells ((x.1.take l0.length).map markB)) wr.drew) := ⟨HIj.out⟩
                go_wp2
                refine start_ (n := 8) (S := fun w' => w'.cell? ⟨wq.heap.size, 16, none⟩ = some (.string x.2)) (ds := []) #[false, false, false, false, false, false, false, false] (by kernel_rfl) rfl rfl (xj) (fun hHeld => ?_)
                refine pure_ (i := 0) (N := some 51) (v := ?_) (a' := ?_) #[true, false, false, false, false, false, false, false] rfl rfl (by kernel_rfl) (fun _ _ _ h => h) (Or.inl ⟨by rfl, ?_⟩) ?_ ?_
                rotate_left
                · intro w'
                  go_simp
                  with_reducible rfl
                rotate_left
                · simp only [Act.put, List.setIfInBounds_toArray, List.set_cons_zero, List.set_cons_succ, i64_w, i32_w]
                  rfl
                refine pure_ (i := 2) (N := some 53) (v := ?_) (a' := ?_) #[true, false, true, false, false, false, false, false] rfl rfl (by kernel_rfl) (fun _ _ _ h => h) (Or.inl ⟨by rfl, ?_⟩) ?_ ?_
                rotate_left
                · intro w'
                  go_simp
                  with_reducible rfl
                rotate_left
                · simp only [Act.put, List.setIfInBounds_toArray, List.set_cons_zero, List.set_cons_succ, i64_w, i32_w]
                  rfl
                refine take_ (i := 3) (N := some 54) (v := ?_) (a' := ?_) #[true, false, true, true, false, false, false, false] rfl rfl (by kernel_rfl) (fun _ _ _ h => h) (Or.inl ⟨by rfl, ?_⟩) hHeld ?_ ?_
                rotate_left
                · intro w' s0
                  go_simp
                  with_reducible rfl
                rotate_left
                · simp only [Act.put, List.setIfInBounds_toArray, List.set_cons_zero, List.set_cons_succ, i64_w, i32_w]
                  rfl
                refine one_ (i := 1) (N := some 52) #[true, true, true, true, false, false, false, false] rfl rfl (by kernel_rfl) (by decide) (fun K hK => ?_)
                refine goes_ Try.func41 (by kernel_rfl) rfl #[.pointer (some ⟨w3.heap.size, 0, none⟩)] (by rfl) rfl rfl (by simp only [List.map_toArray, List.map_cons, List.map_nil]; rfl) ?_
                with_reducible refine (Try.Builder_String_any w3.heap.size w3.heap.size ((x.1.take l0.length).map markB) wr.drew HIDw.out HSB.out).mono ?_
                rintro e8 w8 ⟨rfl, hb8⟩
                refine ⟨_, rfl, ?_⟩
                have HB8 : Aside0 (Below wr.heap.size wr w8 ∨ Below w3.heap.size wr w8) := ⟨.inr ((Below.refl _ wr).drew.trans hb8)⟩
                have HC8 : Aside0 (Below w3.heap.size wr w8) := ⟨(Below.refl _ wr).drew.trans hb8⟩
                have HX8 : Aside0 (w8.heap[wq.heap.size]? = some (.cells (rowCells x).toArray 63 (0, 0))) := ⟨(HC8.out.block _ HL3s.out).trans HXj.out⟩
                have HO8 : Aside0 (Kd.R k37 37 w8 w2.heap.size (fun _ => True) (.slice Ao k co) ((rs.take k).map (rowOut l0.length))) := ⟨Kd.R_below HO.out (HWj.out.trans (HC8.out.mono (Nat.le_of_lt HL3s.out)))⟩
                have HD8 : Aside0 (Below w2.heap.size w2 w8) := ⟨HB2j.out.trans (HC8.out.mono (by have := HBr.out.size; have := HL3s.out; omega))⟩
                have x8 : w8.cell? ⟨wq.heap.size, 16, none⟩ = some (.string x.2) := cell_blk HX8.out h16c
                refine hK.out _ _ (x8) (fun hHeld => ?_)
                clear hK K
                refine norm_ (a' := ?_) ?_ ?_
                rotate_left
                · show Act.put _ (some 52) _ = _
                  simp only [Act.put, List.setIfInBounds_toArray, List.set_cons_zero, List.set_cons_succ, i64_w, i32_w]
                  rfl
                refine pure_ (i := 4) (N := some 55) (v := ?_) (a' := ?_) #[true, true, true, true, true, false, false, false] rfl rfl (by kernel_rfl) (fun _ _ _ h => h) (Or.inl ⟨by rfl, ?_⟩) ?_ ?_
                rotate_left
                · intro w'
                  go_simp
                  with_reducible rfl
                rotate_left
                · simp only [Act.put, List.setIfInBounds_toArray, List.set_cons_zero, List.set_cons_succ, i64_w, i32_w]
                  rfl
                refine one_ (i := 5) (N := some 56) #[true, true, true, true, true, true, false, false] rfl rfl (by kernel_rfl) (by decide) (fun K hK => ?_)
                refine value_ (w1 := ?_) (v := ?_) (by rfl) rfl ?_ ?_
                rotate_left 2
                · go_simp
                  constructor
                  · rfl
                  · rfl
                refine hK.out _ _ (cell_alloc_of x8 _) (fun hHeld => ?_)
                clear hK K
                refine norm_ (a' := ?_) ?_ ?_
                rotate_left
                · show Act.put _ (some 56) _ = _
                  simp only [Act.put, List.setIfInBounds_toArray, List.set_cons_zero, List.set_cons_succ, i64_w, i32_w]
                  rfl
                refine one_ (i := 6) (N := some 57) #[true, true, true, true, true, true, true, false] rfl rfl (by kernel_rfl) (by decide) (fun K hK => ?_)
                refine Kd.R_append_step k37 (w0 := w2) w2.heap.size (by rfl) (.tmp 51) (.tmp 56) 25 37 (.agg #[(.string ⟨#[]⟩), (.string ⟨#[]⟩)]) 32 rfl Try.underlying25 info37 rfl (by decide) (by omega) (.slice Ao k co) ((rs.take k).map (rowOut l0.length)) (rowOut l0.length x) [.string ⟨((x.1.map markB).take l0.length).toArray⟩, .string x.2] (fun _ => True) (fun _ => False) rfl rfl ?aP (fun _ hk => hk.elim) ?aF ?aO ?aB ?aS ?aL ?_
                (case aP => exact k37_mkM _ _ _ (rowOut l0.length x))
                (case aF => exact (fun _ _ => trivial))
                (case aO => exact (by (with_reducible repeat (first | apply Kd.R_alloc | apply Kd.R_drewN | apply Kd.R_drew)); exact HO8.out))
                (case aB => exact (by repeat (first | (with_reducible first | exact HD8.out | apply below_alloc | apply pw_below_drewN | apply below_drew1) | exact HD8.out)))
                (case aS => exact (below_size (by repeat (first | (with_reducible first | exact HD8.out | apply below_alloc | apply pw_below_drewN | apply below_drew1) | exact HD8.out))))
                (case aL => rw [HNO.out]; omega)
                intro v9 w9 ho9 hb9 hg9 hat9
                have HO9 := Aside0.mk ho9
                have HB9 := Aside0.mk hb9
                have x9 : w9.cell? ⟨wq.heap.size, 16, none⟩ = some (.string x.2) := cell_blk ((hg9.block _ (blk_lt HX8.out) (Kd.R_ne HO8.out HX8.out (by decide))).trans HX8.out) h16c
                clear ho9 hb9 hg9 hat9
                refine hK.out _ _ (x9) (fun hHeld => ?_)
                clear hK K
                refine norm_ (a' := ?_) ?_ ?_
                rotate_left
                · show Act.put _ (some 57) _ = _
                  simp only [Act.put, List.setIfInBounds_toArray, List.set_cons_zero, List.set_cons_succ, i64_w, i32_w]
                  rfl
                refine pure_ (i := 7) (N := some 5) (v := ?_) (a' := ?_) #[true, true, true, true, true, true, true, true] rfl rfl (by kernel_rfl) (fun _ _ _ h => h) (Or.inl ⟨by rfl, ?_⟩) ?_ ?_
                rotate_left
                · intro w'
                  go_simp
                  with_reducible rfl
                rotate_left
                · simp only [Act.put, List.setIfInBounds_toArray, List.set_cons_zero, List.set_cons_succ, i64_w, i32_w]
                  rfl
                refine done_ (by kernel_rfl) ?_

                go_wp2
                go_roundw
                case measure => simp [intOf]; omega
                case rel => exact ⟨k + 1, by omega, by go_num, ⟨by rw [HTK.out, List.map_append]; exact HO9.out⟩, HB9⟩
          · have hk' : k = rs.length := by omega
            subst hk'
            rw [List.take_length] at HO
            go_wp2
            go_ret2
            exact ⟨_, rfl, Kd.R_lower HO.out HB.out.size, HB.out.trans (HBr.out.mono HB.out.size)⟩
      · rw [if_pos he] at HG
        obtain ⟨rfl, rfl⟩ := Prod.mk.inj HG.out
        clear HG H
        go_wp2
        refine start_ (n := 6) (S := fun w' => w'.cell? ⟨w.heap.size, 1, none⟩ = some (.int .i64 r2)) (ds := []) #[false, false, false, false, false, false] (by kernel_rfl) rfl rfl (cg1) (fun hHeld => ?_)
        refine pure_ (i := 0) (N := some 25) (v := ?_) (a' := ?_) #[true, false, false, false, false, false] rfl rfl (by kernel_rfl) (fun _ _ _ h => h) (Or.inl ⟨by rfl, ?_⟩) ?_ ?_
        rotate_left
        · intro w'
          go_simp
          with_reducible rfl
        rotate_left
        · simp only [Act.put, List.setIfInBounds_toArray, List.set_cons_zero, List.set_cons_succ, i64_w, i32_w]
          rfl
        refine pure_ (i := 1) (N := some 26) (v := ?_) (a' := ?_) #[true, true, false, false, false, false] rfl rfl (by kernel_rfl) (fun _ _ _ h => h) (Or.inl ⟨by rfl, ?_⟩) ?_ ?_
        rotate_left
        · intro w'
          go_simp
          with_reducible rfl
        rotate_left
        · simp only [Act.put, List.setIfInBounds_toArray, List.set_cons_zero, List.set_cons_succ, i64_w, i32_w]
          rfl
        refine pure_ (i := 2) (N := some 27) (v := ?_) (a' := ?_) #[true, true, true, false, false, false] rfl rfl (by kernel_rfl) (fun _ _ _ h => h) (Or.inl ⟨by rfl, ?_⟩) ?_ ?_
        rotate_left
        · intro w'
          go_simp
          with_reducible rfl
        rotate_left
        · simp only [Act.put, List.setIfInBounds_toArray, List.set_cons_zero, List.set_cons_succ, i64_w, i32_w]
          rfl
        refine pure_ (i := 4) (N := some 2) (v := ?_) (a' := ?_) #[true, true, true, false, true, false] rfl rfl (by kernel_rfl) (fun _ _ _ h => h) (Or.inl ⟨by rfl, ?_⟩) ?_ ?_
        rotate_left
        · intro w'
          go_simp
          with_reducible rfl
        rotate_left
        · simp only [Act.put, List.setIfInBounds_toArray, List.set_cons_zero, List.set_cons_succ, i64_w, i32_w]
          rfl
        refine take_ (i := 3) (N := some 28) (v := ?_) (a' := ?_) #[true, true, true, true, true, false] rfl rfl (by kernel_rfl) (fun _ _ _ h => h) (Or.inl ⟨by rfl, ?_⟩) hHeld ?_ ?_
        rotate_left
        · intro w' s0
          go_simp
          with_reducible rfl
        rotate_left
        · simp only [Act.put, List.setIfInBounds_toArray, List.set_cons_zero, List.set_cons_succ, i64_w, i32_w]
          rfl
        refine pure_ (i := 5) (N := some 3) (v := ?_) (a' := ?_) #[true, true, true, true, true, true] rfl rfl (by kernel_rfl) (fun _ _ _ h => h) (Or.inl ⟨by rfl, ?_⟩) ?_ ?_
        rotate_left
        · intro w'
          go_simp
          with_reducible rfl
        rotate_left
        · simp only [Act.put, List.setIfInBounds_toArray, List.set_cons_zero, List.set_cons_succ, i64_w, i32_w]
          rfl
        refine done_ (by kernel_rfl) ?_

        go_wp2
        go_ret2
        exact ⟨_, rfl, Kd.R_nil _ _ _ _ _, HB.out.drew⟩
  · cases h
end Go.Proofs.Ytnlekganlliikaa.X
-- part XGn1
namespace Go.Proofs.Ytnlekganlliikaa.X
open Go.RowKit Go.Proofs.YtnlekganlliikaaW.PrintWords Go.Proofs.YtnlekganlliikaaW.PrintLast Go.Proofs.YtnlekganlliikaaW.PrintMore
attribute [local go_sem] max2_int min2_int max_two min_two max_three min_three max_four min_four   -- for this text's walks alone
set_option linter.unusedVariables false
set_option linter.unusedSimpArgs false
attribute [local go_sem high] eqA37
def sennitlaw19_awake.f  : Option (Bool) := (gap_Coalesce.f (([(([(⟨#[97]⟩ : ByteArray), (⟨#[98]⟩ : ByteArray)] : List ByteArray)), (([(⟨#[98]⟩ : ByteArray), (⟨#[99]⟩ : ByteArray)] : List ByteArray))] : List (List ByteArray)))).bind fun bt110 => (if 17 ≤ 11728124029610 then ((gap_Coalesce.f (List.replicate 17 [])).bind fun bt117 => (if bt110.2 = 0 then (if bt117.2 = 1 then (if (bt110.1.length : Int) = 3 then (if 0 < (bt110.1.length : Int) then (if ((((rd_T37 bt110.1 0).f0).toList) == ([45, 32] : List UInt8) && ((((rd_T37 bt110.1 0).f1).toList) == ([97] : List UInt8))) = true then (if 1 < (bt110.1.length : Int) then (if ((((rd_T37 bt110.1 1).f0).toList) == ([45, 45] : List UInt8) && ((((rd_T37 bt110.1 1).f1).toList) == ([98] : List UInt8))) = true then (if 2 < (bt110.1.length : Int) then (some ((((rd_T37 bt110.1 2).f0).toList) == ([32, 45] : List UInt8) && ((((rd_T37 bt110.1 2).f1).toList) == ([99] : List UInt8)))) else (none)) else (some false)) else (none)) else (some false)) else (none)) else (some false)) else (some false)) else (some false))) else (none))
set_option maxHeartbeats 8000000 in
set_option maxRecDepth 100000 in
theorem sennitlaw19_awake.calls  (r : Bool) (w : World) (h : sennitlaw19_awake.f  = some r) :
    Calls Try.prog 15 #[] w fun e w' => e = .returned (.bool r) ∧ Below w.heap.size w w' := by
  have hu37 := Try.underlying37
  have HB := Aside0.mk (Below.refl w.heap.size w)
  have H : ((gap_Coalesce.f (([(([(⟨#[97]⟩ : ByteArray), (⟨#[98]⟩ : ByteArray)] : List ByteArray)), (([(⟨#[98]⟩ : ByteArray), (⟨#[99]⟩ : ByteArray)] : List ByteArray))] : List (List ByteArray)))).bind fun bt110 => (if 17 ≤ 11728124029610 then ((gap_Coalesce.f (List.replicate 17 [])).bind fun bt117 => (if bt110.2 = 0 then (if bt117.2 = 1 then (if (bt110.1.length : Int) = 3 then (if 0 < (bt110.1.length : Int) then (if ((((rd_T37 bt110.1 0).f0).toList) == ([45, 32] : List UInt8) && ((((rd_T37 bt110.1 0).f1).toList) == ([97] : List UInt8))) = true then (if 1 < (bt110.1.length : Int) then (if ((((rd_T37 bt110.1 1).f0).toList) == ([45, 45] : List UInt8) && ((((rd_T37 bt110.1 1).f1).toList) == ([98] : List UInt8))) = true then (if 2 < (bt110.1.length : Int) then (some ((((rd_T37 bt110.1 2).f0).toList) == ([32, 45] : List UInt8) && ((((rd_T37 bt110.1 2).f1).toList) == ([99] : List UInt8)))) else (none)) else (some false)) else (none)) else (some false)) else (none)) else (some false)) else (some false)) else (some false))) else (none))) = some r := h
  clear h
  obtain ⟨y101, hy101⟩ : ∃ y_ : List ByteArray, y_ = (([(⟨#[97]⟩ : ByteArray), (⟨#[98]⟩ : ByteArray)] : List ByteArray)) := ⟨_, rfl⟩
  replace H : ((gap_Coalesce.f (([y101, (([(⟨#[98]⟩ : ByteArray), (⟨#[99]⟩ : ByteArray)] : List ByteArray))] : List (List ByteArray)))).bind fun bt110 => (if 17 ≤ 11728124029610 then ((gap_Coalesce.f (List.replicate 17 [])).bind fun bt117 => (if bt110.2 = 0 then (if bt117.2 = 1 then (if (bt110.1.length : Int) = 3 then (if 0 < (bt110.1.length : Int) then (if ((((rd_T37 bt110.1 0).f0).toList) == ([45, 32] : List UInt8) && ((((rd_T37 bt110.1 0).f1).toList) == ([97] : List UInt8))) = true then (if 1 < (bt110.1.length : Int) then (if ((((rd_T37 bt110.1 1).f0).toList) == ([45, 45] : List UInt8) && ((((rd_T37 bt110.1 1).f1).toList) == ([98] : List UInt8))) = true then (if 2 < (bt110.1.length : Int) then (some ((((rd_T37 bt110.1 2).f0).toList) == ([32, 45] : List UInt8) && ((((rd_T37 bt110.1 2).f1).toList) == ([99] : List UInt8)))) else (none)) else (some false)) else (none)) else (some false)) else (none)) else (some false)) else (some false)) else (some false))) else (none))) = some r := by first | (rw [hy101]; with_reducible exact H) | (have H2_ := (Option.bind_some _ _).symm.trans H; rw [hy101]; with_reducible exact H2_) | (have H2_ := (Option.bind_some _ _).symm.trans H; with_reducible exact H2_) | with_reducible exact H | (rw [hy101]; exact H) | exact H
  have Ny101 := Aside0.mk hy101
  clear hy101
  obtain ⟨y104, hy104⟩ : ∃ y_ : List ByteArray, y_ = (([(⟨#[98]⟩ : ByteArray), (⟨#[99]⟩ : ByteArray)] : List ByteArray)) := ⟨_, rfl⟩
  replace H : ((gap_Coalesce.f (([y101, y104] : List (List ByteArray)))).bind fun bt110 => (if 17 ≤ 11728124029610 then ((gap_Coalesce.f (List.replicate 17 [])).bind fun bt117 => (if bt110.2 = 0 then (if bt117.2 = 1 then (if (bt110.1.length : Int) = 3 then (if 0 < (bt110.1.length : Int) then (if ((((rd_T37 bt110.1 0).f0).toList) == ([45, 32] : List UInt8) && ((((rd_T37 bt110.1 0).f1).toList) == ([97] : List UInt8))) = true then (if 1 < (bt110.1.length : Int) then (if ((((rd_T37 bt110.1 1).f0).toList) == ([45, 45] : List UInt8) && ((((rd_T37 bt110.1 1).f1).toList) == ([98] : List UInt8))) = true then (if 2 < (bt110.1.length : Int) then (some ((((rd_T37 bt110.1 2).f0).toList) == ([32, 45] : List UInt8) && ((((rd_T37 bt110.1 2).f1).toList) == ([99] : List UInt8)))) else (none)) else (some false)) else (none)) else (some false)) else (none)) else (some false)) else (some false)) else (some false))) else (none))) = some r := by first | (rw [hy104]; with_reducible exact H) | (have H2_ := (Option.bind_some _ _).symm.trans H; rw [hy104]; with_reducible exact H2_) | (have H2_ := (Option.bind_some _ _).symm.trans H; with_reducible exact H2_) | with_reducible exact H | (rw [hy104]; exact H) | exact H
  have Ny104 := Aside0.mk hy104
  clear hy104
  obtain ⟨y107, hy107⟩ : ∃ y_ : List (List ByteArray), y_ = (([y101, y104] : List (List ByteArray))) := ⟨_, rfl⟩
  replace H : ((gap_Coalesce.f y107).bind fun bt110 => (if 17 ≤ 11728124029610 then ((gap_Coalesce.f (List.replicate 17 [])).bind fun bt117 => (if bt110.2 = 0 then (if bt117.2 = 1 then (if (bt110.1.length : Int) = 3 then (if 0 < (bt110.1.length : Int) then (if ((((rd_T37 bt110.1 0).f0).toList) == ([45, 32] : List UInt8) && ((((rd_T37 bt110.1 0).f1).toList) == ([97] : List UInt8))) = true then (if 1 < (bt110.1.length : Int) then (if ((((rd_T37 bt110.1 1).f0).toList) == ([45, 45] : List UInt8) && ((((rd_T37 bt110.1 1).f1).toList) == ([98] : List UInt8))) = true then (if 2 < (bt110.1.length : Int) then (some ((((rd_T37 bt110.1 2).f0).toList) == ([32, 45] : List UInt8) && ((((rd_T37 bt110.1 2).f1).toList) == ([99] : List UInt8)))) else (none)) else (some false)) else (none)) else (some false)) else (none)) else (some false)) else (some false)) else (some false))) else (none))) = some r := by first | (rw [hy107]; with_reducible exact H) | (have H2_ := (Option.bind_some _ _).symm.trans H; rw [hy107]; with_reducible exact H2_) | (have H2_ := (Option.bind_some _ _).symm.trans H; with_reducible exact H2_) | with_reducible exact H | (rw [hy107]; exact H) | exact H
  have Ny107 := Aside0.mk hy107
  clear hy107
  replace H := Option.bind_eq_some_iff.mp H
  obtain ⟨⟨t110, t111⟩, A10, H⟩ := H
  replace H : (if 17 ≤ 11728124029610 then ((gap_Coalesce.f (List.replicate 17 [])).bind fun bt117 => (if t111 = 0 then (if bt117.2 = 1 then (if (t110.length : Int) = 3 then (if 0 < (t110.length : Int) then (if ((((rd_T37 t110 0).f0).toList) == ([45, 32] : List UInt8) && ((((rd_T37 t110 0).f1).toList) == ([97] : List UInt8))) = true then (if 1 < (t110.length : Int) then (if ((((rd_T37 t110 1).f0).toList) == ([45, 45] : List UInt8) && ((((rd_T37 t110 1).f1).toList) == ([98] : List UInt8))) = true then (if 2 < (t110.length : Int) then (some ((((rd_T37 t110 2).f0).toList) == ([32, 45] : List UInt8) && ((((rd_T37 t110 2).f1).toList) == ([99] : List UInt8)))) else (none)) else (some false)) else (none)) else (some false)) else (none)) else (some false)) else (some false)) else (some false))) else (none)) = some r := H
  have A1 := Aside0.mk A10
  clear A10
  by_cases c2 : 17 ≤ 11728124029610
  · rw [if_pos c2] at H
    have c2b0 := eq_true c2
    have c2b1 : decide (17 ≤ 11728124029610) = true := decide_eq_true c2
    clear c2
    obtain ⟨y114, hy114⟩ : ∃ y_ : List (List ByteArray), y_ = (List.replicate 17 []) := ⟨_, rfl⟩
    replace H : ((gap_Coalesce.f y114).bind fun bt117 => (if t111 = 0 then (if bt117.2 = 1 then (if (t110.length : Int) = 3 then (if 0 < (t110.length : Int) then (if ((((rd_T37 t110 0).f0).toList) == ([45, 32] : List UInt8) && ((((rd_T37 t110 0).f1).toList) == ([97] : List UInt8))) = true then (if 1 < (t110.length : Int) then (if ((((rd_T37 t110 1).f0).toList) == ([45, 45] : List UInt8) && ((((rd_T37 t110 1).f1).toList) == ([98] : List UInt8))) = true then (if 2 < (t110.length : Int) then (some ((((rd_T37 t110 2).f0).toList) == ([32, 45] : List UInt8) && ((((rd_T37 t110 2).f1).toList) == ([99] : List UInt8)))) else (none)) else (some false)) else (none)) else (some false)) else (none)) else (some false)) else (some false)) else (some false))) = some r := by first | (rw [hy114]; with_reducible exact H) | (have H2_ := (Option.bind_some _ _).symm.trans H; rw [hy114]; with_reducible exact H2_) | (have H2_ := (Option.bind_some _ _).symm.trans H; with_reducible exact H2_) | with_reducible exact H | (rw [hy114]; exact H) | exact H
    have Ny114 := Aside0.mk hy114
    clear hy114
    replace H := Option.bind_eq_some_iff.mp H
    obtain ⟨⟨t117, t118⟩, A30, H⟩ := H
    replace H : (if t111 = 0 then (if t118 = 1 then (if (t110.length : Int) = 3 then (if 0 < (t110.length : Int) then (if ((((rd_T37 t110 0).f0).toList) == ([45, 32] : List UInt8) && ((((rd_T37 t110 0).f1).toList) == ([97] : List UInt8))) = true then (if 1 < (t110.length : Int) then (if ((((rd_T37 t110 1).f0).toList) == ([45, 45] : List UInt8) && ((((rd_T37 t110 1).f1).toList) == ([98] : List UInt8))) = true then (if 2 < (t110.length : Int) then (some ((((rd_T37 t110 2).f0).toList) == ([32, 45] : List UInt8) && ((((rd_T37 t110 2).f1).toList) == ([99] : List UInt8)))) else (none)) else (some false)) else (none)) else (some false)) else (none)) else (some false)) else (some false)) else (some false)) = some r := H
    have A3 := Aside0.mk A30
    clear A30
    by_cases c4 : t111 = 0
    · rw [if_pos c4] at H
      have c4b0 : (t111 == 0) = true := beq_iff_eq.mpr c4
      have c4b1 : (t111 != 0) = false := bne_eq_false_iff_eq.mpr c4
      clear c4
      by_cases c5 : t118 = 1
      · rw [if_pos c5] at H
        have c5b0 : (t118 == 1) = true := beq_iff_eq.mpr c5
        have c5b1 : (t118 != 1) = false := bne_eq_false_iff_eq.mpr c5
        clear c5
        by_cases c6 : (t110.length : Int) = 3
        · rw [if_pos c6] at H
          have c6b0 : ((t110.length : Int) == 3) = true := beq_iff_eq.mpr c6
          have c6b1 : ((t110.length : Int) != 3) = false := bne_eq_false_iff_eq.mpr c6
          clear c6
          by_cases c7 : 0 < (t110.length : Int)
          · rw [if_pos c7] at H
            have c7b0 : decide (0 < (t110.length : Int)) = true := decide_eq_true c7
            have c7b1 : decide (0 < t110.length) = true := decide_eq_true (by omega)
            clear c7
            by_cases c8 : ((((rd_T37 t110 0).f0).toList) == ([45, 32] : List UInt8) && ((((rd_T37 t110 0).f1).toList) == ([97] : List UInt8))) = true
            · rw [if_pos c8] at H
              have c8b0 : ((((rd_T37 t110 0).f0).toList) == ([45, 32] : List UInt8) && ((((rd_T37 t110 0).f1).toList) == ([97] : List UInt8))) = true := c8
              (try (have c8b1 : decide ((((rd_T37 t110 0).f0).toList) = ([45, 32] : List UInt8) && ((((rd_T37 t110 0).f1).toList) == ([97] : List UInt8))) = true := by simpa using c8))
              (try (have c8b2 : ((((rd_T37 t110 0).f0).toList) == ([45, 32] : List UInt8) && ((((rd_T37 t110 0).f1).toList) == ([97] : List UInt8))) = true := by simpa using c8))
              clear c8
              by_cases c9 : 1 < (t110.length : Int)
              · rw [if_pos c9] at H
                have c9b0 : decide (1 < (t110.length : Int)) = true := decide_eq_true c9
                have c9b1 : decide (1 < t110.length) = true := decide_eq_true (by omega)
                clear c9
                by_cases c10 : ((((rd_T37 t110 1).f0).toList) == ([45, 45] : List UInt8) && ((((rd_T37 t110 1).f1).toList) == ([98] : List UInt8))) = true
                · rw [if_pos c10] at H
                  have c10b0 : ((((rd_T37 t110 1).f0).toList) == ([45, 45] : List UInt8) && ((((rd_T37 t110 1).f1).toList) == ([98] : List UInt8))) = true := c10
                  (try (have c10b1 : decide ((((rd_T37 t110 1).f0).toList) = ([45, 45] : List UInt8) && ((((rd_T37 t110 1).f1).toList) == ([98] : List UInt8))) = true := by simpa using c10))
                  (try (have c10b2 : ((((rd_T37 t110 1).f0).toList) == ([45, 45] : List UInt8) && ((((rd_T37 t110 1).f1).toList) == ([98] : List UInt8))) = true := by simpa using c10))
                  clear c10
                  by_cases c11 : 2 < (t110.length : Int)
                  · rw [if_pos c11] at H
                    have c11b0 : decide (2 < (t110.length : Int)) = true := decide_eq_true c11
                    have c11b1 : decide (2 < t110.length) = true := decide_eq_true (by omega)
                    clear c11
                    obtain rfl := Option.some.inj H
                    go_enter Try.func15, Try.ntmps15
                    go_wp2_with (first | ((with_reducible refine gate_dst (N := 6) rfl ?_); (try (refine gate_guard (by rfl) ?_; dsimp only)); refine Kd.R_lit Kd.string _ 9 ?hg (N := 6) ?hd (xs := ([(⟨#[97]⟩ : ByteArray), (⟨#[98]⟩ : ByteArray)] : List ByteArray)) (inner := [.string (⟨#[97]⟩ : ByteArray), .string (⟨#[98]⟩ : ByteArray)]) (ok := fun _ => True) (okp := fun _ => True) ?hr ?hp (fun _ hk => hk) trivial (Below.refl _ _) (Nat.le_refl _) (by simp) ?_; (case hd => rfl); (case hg => rfl); (case hr => first | (go_simp; done) | (go_simp; rfl)); (case hp => exact (Reps.one (show Kd.M Kd.string _ _ _ (⟨#[97]⟩ : ByteArray) [.string (⟨#[97]⟩ : ByteArray)] from rfl) (Reps.one (show Kd.M Kd.string _ _ _ (⟨#[98]⟩ : ByteArray) [.string (⟨#[98]⟩ : ByteArray)] from rfl) (Reps.none _ _)))); intro v102 w12 ho13 hb hg_ hnew_; clear hg_ hnew_; (first | rw [← Ny101.out] at ho13 | (simp only [Int.reduceToNat] at ho13; rw [← Ny101.out] at ho13)); have n0_ := Aside0.mk (Kd.R_lower ho13 (below_size (by repeat (first | (with_reducible first | exact HB.out | apply below_alloc | apply pw_below_drewN | apply below_drew1) | exact HB.out)))); have n1_ := Aside0.mk (below_step (by repeat (first | (with_reducible first | exact HB.out | apply below_alloc | apply pw_below_drewN | apply below_drew1) | exact HB.out)) hb); clear HB; have HO103 := n0_; have HB := n1_; clear n0_ n1_; clear hb ho13) | ((with_reducible refine gate_dst (N := 7) rfl ?_); (try (refine gate_guard (by rfl) ?_; dsimp only)); refine Kd.R_lit Kd.string _ 9 ?hg (N := 7) ?hd (xs := ([(⟨#[98]⟩ : ByteArray), (⟨#[99]⟩ : ByteArray)] : List ByteArray)) (inner := [.string (⟨#[98]⟩ : ByteArray), .string (⟨#[99]⟩ : ByteArray)]) (ok := fun _ => True) (okp := fun _ => True) ?hr ?hp (fun _ hk => hk) trivial (Below.refl _ _) (Nat.le_refl _) (by simp) ?_; (case hd => rfl); (case hg => rfl); (case hr => first | (go_simp; done) | (go_simp; rfl)); (case hp => exact (Reps.one (show Kd.M Kd.string _ _ _ (⟨#[98]⟩ : ByteArray) [.string (⟨#[98]⟩ : ByteArray)] from rfl) (Reps.one (show Kd.M Kd.string _ _ _ (⟨#[99]⟩ : ByteArray) [.string (⟨#[99]⟩ : ByteArray)] from rfl) (Reps.none _ _)))); intro v105 w14 ho15 hb hg_ hnew_; clear hg_ hnew_; (first | rw [← Ny104.out] at ho15 | (simp only [Int.reduceToNat] at ho15; rw [← Ny104.out] at ho15)); have n0_ := Aside0.mk (Kd.R_elder' (by (with_reducible repeat (first | apply Kd.R_alloc | apply Kd.R_drewN | apply Kd.R_drew)); exact HO103.out) (Kd.R_base ho15) hb); have n1_ := Aside0.mk (Kd.R_lower (Kd.R_new' ho15 (Kd.R_lt (by (with_reducible repeat (first | apply Kd.R_alloc | apply Kd.R_drewN | apply Kd.R_drew)); exact HO103.out))) (below_size (by repeat (first | (with_reducible first | exact HB.out | apply below_alloc | apply pw_below_drewN | apply below_drew1) | exact HB.out)))); have n2_ := Aside0.mk (below_step (by repeat (first | (with_reducible first | exact HB.out | apply below_alloc | apply pw_below_drewN | apply below_drew1) | exact HB.out)) hb); clear HO103; clear HB; have HO103 := n0_; have HO106 := n1_; have HB := n2_; clear n0_ n1_ n2_; clear hb ho15; obtain ⟨Ao16, co16, eo16⟩ := Kd.R_slice HO103.out; subst eo16; obtain ⟨Ao17, co17, eo17⟩ := Kd.R_slice HO106.out; subst eo17) | ((with_reducible refine gate_dst (N := 8) rfl ?_); (try (refine gate_guard (by rfl) ?_; dsimp only)); refine Kd.N_lit (Kd.slice 9 Kd.string) _ 34 ?hg (N' := 8) ?hd (xs := ([y101, y104] : List (List ByteArray))) (inner := [.slice Ao16 y101.length co16, .slice Ao17 y104.length co17]) (ok := (fun _ => True)) (okp := (fun _ => True)) ?hr ?hp (fun _ hk => hk) ((show ∀ k_, w14.heap.size ≤ k_ → (fun _ => True) k_ from fun k_ hk => trivial) _ (Nat.le_refl _)) (Below.refl _ _) (Nat.le_refl _) (by simp) ?_; (case hd => rfl); (case hg => rfl); (case hr => first | (go_simp; done) | (go_simp; rfl)); (case hp => exact (Reps.one (show Kd.FK (Kd.slice 9 Kd.string) _ _ y101 [.slice Ao16 y101.length co16] from (Kd.FK_slice_mk (Kd.R_reads' (Kd.R_mono (ok' := (fun _ => True)) (HO103.out) (fun k_ hk => trivial))).2.1 (Kd.R_F (Kd.R_mono (ok' := (fun _ => True)) (HO103.out) (fun k_ hk => trivial))))) (Reps.one (show Kd.FK (Kd.slice 9 Kd.string) _ _ y104 [.slice Ao17 y104.length co17] from (Kd.FK_slice_mk (Kd.R_reads' (Kd.R_mono (ok' := (fun _ => True)) (HO106.out) (fun k_ hk => trivial))).2.1 (Kd.R_F (Kd.R_mono (ok' := (fun _ => True)) (HO106.out) (fun k_ hk => trivial))))) (Reps.none _ _)))); intro v108 w18 ho19 hb hg_ hnew_; clear hg_ hnew_; (first | rw [← Ny107.out] at ho19 | (simp only [Int.reduceToNat] at ho19; rw [← Ny107.out] at ho19)); have n0_ := Aside0.mk (Kd.N_lower ho19 (below_size (by repeat (first | (with_reducible first | exact HB.out | apply below_alloc | apply pw_below_drewN | apply below_drew1) | exact HB.out)))); have n1_ := Aside0.mk (below_step (by repeat (first | (with_reducible first | exact HB.out | apply below_alloc | apply pw_below_drewN | apply below_drew1) | exact HB.out)) hb); clear HB; clear HO103; clear HO106; have HO109 := n0_; have HB := n1_; clear n0_ n1_; clear hb ho19; obtain ⟨Ao20, co20, eo20⟩ := Kd.N_slice HO109.out; subst eo20) | ((with_reducible refine gate_callee (f := 17) rfl ?_); refine goesL_ (some 9) rfl rfl Try.func17 (by kernel_rfl) rfl #[.slice Ao20 y107.length co20] rfl (by (try simp only [List.map_toArray, List.map_cons, List.map_nil]); first | done | rfl | (simp only [List.length_drop, List.length_take]; rfl)) ?_; (with_reducible refine (gap_Coalesce.calls _ _ y107 t110 t111 _ ?side1 ?side2 A1.out).mono ?_); (case side1 => repeat (first | exact (Kd.N_reads' HO109.out).2.2 | (with_reducible refine Kd.C_alloc ?_ _) | (with_reducible refine Kd.C_drewN ?_ _) | (with_reducible refine Kd.C_drew ?_))); (case side2 => exact (Kd.N_reads' HO109.out).2.1); rintro e w21 ⟨v112, rfl, ho0, hb⟩; refine ⟨_, rfl, ?_⟩; have n0_ := Aside0.mk (Kd.N_elder' (by (with_reducible repeat (first | apply Kd.N_alloc | apply Kd.N_drewN | apply Kd.N_drew)); exact HO109.out) (Kd.R_base ho0) hb); have n1_ := Aside0.mk (Kd.R_lower ho0 (below_size (by repeat (first | (with_reducible first | exact HB.out | apply below_alloc | apply pw_below_drewN | apply below_drew1) | exact HB.out)))); have n2_ := Aside0.mk (below_step (by repeat (first | (with_reducible first | exact HB.out | apply below_alloc | apply pw_below_drewN | apply below_drew1) | exact HB.out)) hb); clear HO109; clear HB; have HO109 := n0_; have HO113 := n1_; have HB := n2_; clear n0_ n1_ n2_; (try clear hb); (try clear hb2); (try clear hk); (try clear hi); (try clear ho0)) | ((with_reducible refine gate_dst (N := 13) rfl ?_); (try (refine gate_guard (by rfl) ?_; dsimp only)); refine Kd.N_make (Kd.slice 9 Kd.string) _ 34 rfl (N' := 13) rfl 22 _ _ rfl 17 rfl rfl Try.underlying22 (.slice none 0 0) 24 info34 rfl (by decide) (by omega) [] (ok := fun k_ => w21.heap.size ≤ k_) (okp := fun _ => False) (Kd.FK_slice_mk (Nat.le_refl _) (Kd.F_nil _ _ _)) (fun _ hk => hk.elim) (Nat.le_refl _) (by omega) (by omega) (Below.refl _ _) (Nat.le_refl _) ?_; intro v115 w22 ho23 hb hg_ hnew_; clear hg_ hnew_; (first | rw [← Ny114.out] at ho23 | (simp only [Int.reduceToNat] at ho23; rw [← Ny114.out] at ho23)); have n0_ := Aside0.mk (Kd.N_elder' (by (with_reducible repeat (first | apply Kd.N_alloc | apply Kd.N_drewN | apply Kd.N_drew)); exact HO109.out) (Kd.N_base ho23) hb); have n1_ := Aside0.mk (Kd.R_below (by (with_reducible repeat (first | apply Kd.R_alloc | apply Kd.R_drewN | apply Kd.R_drew)); exact HO113.out) hb); have n2_ := Aside0.mk (Kd.N_lower (Kd.N_mono (ok' := fun k_ => some k_ ≠ (.slice Ao20 y107.length co20 : Value).ownBlock ∧ some k_ ≠ (v112 : Value).ownBlock) ho23 (fun k_ hk_ => ⟨(Kd.fresh' (Kd.N_lt (by (with_reducible repeat (first | apply Kd.N_alloc | apply Kd.N_drewN | apply Kd.N_drew)); exact HO109.out)) k_ hk_), (Kd.fresh' (Kd.R_lt (by (with_reducible repeat (first | apply Kd.R_alloc | apply Kd.R_drewN | apply Kd.R_drew)); exact HO113.out)) k_ hk_)⟩)) (below_size (by repeat (first | (with_reducible first | exact HB.out | apply below_alloc | apply pw_below_drewN | apply below_drew1) | exact HB.out)))); have n3_ := Aside0.mk (below_step (by repeat (first | (with_reducible first | exact HB.out | apply below_alloc | apply pw_below_drewN | apply below_drew1) | exact HB.out)) hb); clear HO109; clear HO113; clear HB; have HO109 := n0_; have HO113 := n1_; have HO116 := n2_; have HB := n3_; clear n0_ n1_ n2_ n3_; clear hb ho23; obtain ⟨Ao24, co24, eo24⟩ := Kd.N_slice HO116.out; subst eo24) | ((with_reducible refine gate_callee (f := 17) rfl ?_); refine goesL_ (some 14) rfl rfl Try.func17 (by kernel_rfl) rfl #[.slice Ao24 y114.length co24] rfl (by (try simp only [List.map_toArray, List.map_cons, List.map_nil]); first | done | rfl | (simp only [List.length_drop, List.length_take]; rfl)) ?_; (with_reducible refine (gap_Coalesce.calls _ _ y114 t117 t118 _ ?side1 ?side2 A3.out).mono ?_); (case side1 => repeat (first | exact (Kd.N_reads' HO116.out).2.2 | (with_reducible refine Kd.C_alloc ?_ _) | (with_reducible refine Kd.C_drewN ?_ _) | (with_reducible refine Kd.C_drew ?_))); (case side2 => exact (Kd.N_reads' HO116.out).2.1); rintro e w25 ⟨v119, rfl, ho0, hb⟩; refine ⟨_, rfl, ?_⟩; have n0_ := Aside0.mk (Kd.N_elder' (by (with_reducible repeat (first | apply Kd.N_alloc | apply Kd.N_drewN | apply Kd.N_drew)); exact HO109.out) (Kd.R_base ho0) hb); have n1_ := Aside0.mk (Kd.R_elder' (by (with_reducible repeat (first | apply Kd.R_alloc | apply Kd.R_drewN | apply Kd.R_drew)); exact HO113.out) (Kd.R_base ho0) hb); have n2_ := Aside0.mk (Kd.N_elder' (by (with_reducible repeat (first | apply Kd.N_alloc | apply Kd.N_drewN | apply Kd.N_drew)); exact HO116.out) (Kd.R_base ho0) hb); have n3_ := Aside0.mk (Kd.R_lower (Kd.R_new' ho0 (Kd.R_lt (by (with_reducible repeat (first | apply Kd.R_alloc | apply Kd.R_drewN | apply Kd.R_drew)); exact HO113.out))) (below_size (by repeat (first | (with_reducible first | exact HB.out | apply below_alloc | apply pw_below_drewN | apply below_drew1) | exact HB.out)))); have n4_ := Aside0.mk (below_step (by repeat (first | (with_reducible first | exact HB.out | apply below_alloc | apply pw_below_drewN | apply below_drew1) | exact HB.out)) hb); clear HO109; clear HO113; clear HO116; clear HB; have HO109 := n0_; have HO113 := n1_; have HO116 := n2_; have HO120 := n3_; have HB := n4_; clear n0_ n1_ n2_ n3_ n4_; (try clear hb); (try clear hb2); (try clear hk); (try clear hi); (try clear ho0); obtain ⟨Ao26, co26, eo26⟩ := Kd.R_slice HO113.out; subst eo26; have p121 : 0 ≤ (0 : Int) := (by omega); have q121 : 0 < (t110.length : Int) := of_decide_eq_true (by first | (with_reducible assumption) | assumption); obtain ⟨ad121, e121, hx121_0, hx121_1⟩ := at_T37 (Kd.R_reads' HO113.out).2.2 0 p121 q121; cases e121; have qi121 : (0 < t110.length) = True := eq_true (by omega); (try rw [show ((0 : Int)).toNat = 0 from rfl] at hx121_0); (try rw [show 0 * 2 = 0 from rfl] at hx121_0); (try rw [Addr.add_zero'] at hx121_0); (try rw [show ((0 : Int)).toNat = 0 from rfl] at hx121_1); (try rw [show 0 * 2 = 0 from rfl] at hx121_1); (try rw [Addr.add_zero'] at hx121_1); replace p121 := eq_true p121; replace q121 := eq_true q121; have p122 : 0 ≤ (1 : Int) := (by omega); have q122 : 1 < (t110.length : Int) := of_decide_eq_true (by first | (with_reducible assumption) | assumption); obtain ⟨ad122, e122, hx122_0, hx122_1⟩ := at_T37 (Kd.R_reads' HO113.out).2.2 1 p122 q122; obtain rfl : ad121 = ad122 := (by injection e122); (try simp only [show (1 : Int).toNat = 1 from rfl, Nat.reduceMul, Nat.reduceEqDiff, Go.Addr.add, ↓reduceIte] at hx122_0); (try simp only [show (1 : Int).toNat = 1 from rfl, Nat.reduceMul, Nat.reduceEqDiff, Go.Addr.add, ↓reduceIte] at hx122_1); have qi122 : (1 < t110.length) = True := eq_true (by omega); (try rw [show ((1 : Int)).toNat = 1 from rfl] at hx122_0); (try rw [show 1 * 2 = 2 from rfl] at hx122_0); (try rw [show ((1 : Int)).toNat = 1 from rfl] at hx122_1); (try rw [show 1 * 2 = 2 from rfl] at hx122_1); replace p122 := eq_true p122; replace q122 := eq_true q122; have p123 : 0 ≤ (2 : Int) := (by omega); have q123 : 2 < (t110.length : Int) := of_decide_eq_true (by first | (with_reducible assumption) | assumption); obtain ⟨ad123, e123, hx123_0, hx123_1⟩ := at_T37 (Kd.R_reads' HO113.out).2.2 2 p123 q123; obtain rfl : ad121 = ad123 := (by injection e123); (try simp only [show (2 : Int).toNat = 2 from rfl, Nat.reduceMul, Nat.reduceEqDiff, Go.Addr.add, ↓reduceIte] at hx123_0); (try simp only [show (2 : Int).toNat = 2 from rfl, Nat.reduceMul, Nat.reduceEqDiff, Go.Addr.add, ↓reduceIte] at hx123_1); have qi123 : (2 < t110.length) = True := eq_true (by omega); (try rw [show ((2 : Int)).toNat = 2 from rfl] at hx123_0); (try rw [show 2 * 2 = 4 from rfl] at hx123_0); (try rw [show ((2 : Int)).toNat = 2 from rfl] at hx123_1); (try rw [show 2 * 2 = 4 from rfl] at hx123_1); replace p123 := eq_true p123; replace q123 := eq_true q123))
                    go_ret
                    exact ⟨by first | rfl | (simp [errW_none, errW_some] <;> rfl) | (simp [*, errW_none, errW_some] <;> rfl), by repeat (first | (with_reducible first | exact HB.out | apply below_alloc | apply pw_below_drewN | apply below_drew1) | exact HB.out)⟩
                  · rw [if_neg c11] at H
                    exact absurd H (by simp)
                · rw [if_neg c10] at H
                  have c10b0 : ((((rd_T37 t110 1).f0).toList) == ([45, 45] : List UInt8) && ((((rd_T37 t110 1).f1).toList) == ([98] : List UInt8))) = false := by simpa using c10
                  (try (have c10b1 : decide ((((rd_T37 t110 1).f0).toList) = ([45, 45] : List UInt8) && ((((rd_T37 t110 1).f1).toList) == ([98] : List UInt8))) = false := by simpa using c10))
                  (try (have c10b2 : ((((rd_T37 t110 1).f0).toList) == ([45, 45] : List UInt8) && ((((rd_T37 t110 1).f1).toList) == ([98] : List UInt8))) = false := by simpa using c10))
                  (try (have c10b3 : ¬ ((((rd_T37 t110 1).f0).toList) = ([45, 45] : List UInt8) && ((((rd_T37 t110 1).f1).toList) == ([98] : List UInt8))) := by simpa using c10))
                  clear c10
                  obtain rfl := Option.some.inj H
                  go_enter Try.func15, Try.ntmps15
                  go_wp2_with (first | ((with_reducible refine gate_dst (N := 6) rfl ?_); (try (refine gate_guard (by rfl) ?_; dsimp only)); refine Kd.R_lit Kd.string _ 9 ?hg (N := 6) ?hd (xs := ([(⟨#[97]⟩ : ByteArray), (⟨#[98]⟩ : ByteArray)] : List ByteArray)) (inner := [.string (⟨#[97]⟩ : ByteArray), .string (⟨#[98]⟩ : ByteArray)]) (ok := fun _ => True) (okp := fun _ => True) ?hr ?hp (fun _ hk => hk) trivial (Below.refl _ _) (Nat.le_refl _) (by simp) ?_; (case hd => rfl); (case hg => rfl); (case hr => first | (go_simp; done) | (go_simp; rfl)); (case hp => exact (Reps.one (show Kd.M Kd.string _ _ _ (⟨#[97]⟩ : ByteArray) [.string (⟨#[97]⟩ : ByteArray)] from rfl) (Reps.one (show Kd.M Kd.string _ _ _ (⟨#[98]⟩ : ByteArray) [.string (⟨#[98]⟩ : ByteArray)] from rfl) (Reps.none _ _)))); intro v102 w27 ho28 hb hg_ hnew_; clear hg_ hnew_; (first | rw [← Ny101.out] at ho28 | (simp only [Int.reduceToNat] at ho28; rw [← Ny101.out] at ho28)); have n0_ := Aside0.mk (Kd.R_lower ho28 (below_size (by repeat (first | (with_reducible first | exact HB.out | apply below_alloc | apply pw_below_drewN | apply below_drew1) | exact HB.out)))); have n1_ := Aside0.mk (below_step (by repeat (first | (with_reducible first | exact HB.out | apply below_alloc | apply pw_below_drewN | apply below_drew1) | exact HB.out)) hb); clear HB; have HO103 := n0_; have HB := n1_; clear n0_ n1_; clear hb ho28) | ((with_reducible refine gate_dst (N := 7) rfl ?_); (try (refine gate_guard (by rfl) ?_; dsimp only)); refine Kd.R_lit Kd.string _ 9 ?hg (N := 7) ?hd (xs := ([(⟨#[98]⟩ : ByteArray), (⟨#[99]⟩ : ByteArray)] : List ByteArray)) (inner := [.string (⟨#[98]⟩ : ByteArray), .string (⟨#[99]⟩ : ByteArray)]) (ok := fun _ => True) (okp := fun _ => True) ?hr ?hp (fun _ hk => hk) trivial (Below.refl _ _) (Nat.le_refl _) (by simp) ?_; (case hd => rfl); (case hg => rfl); (case hr => first | (go_simp; done) | (go_simp; rfl)); (case hp => exact (Reps.one (show Kd.M Kd.string _ _ _ (⟨#[98]⟩ : ByteArray) [.string (⟨#[98]⟩ : ByteArray)] from rfl) (Reps.one (show Kd.M Kd.string _ _ _ (⟨#[99]⟩ : ByteArray) [.string (⟨#[99]⟩ : ByteArray)] from rfl) (Reps.none _ _)))); intro v105 w29 ho30 hb hg_ hnew_; clear hg_ hnew_; (first | rw [← Ny104.out] at ho30 | (simp only [Int.reduceToNat] at ho30; rw [← Ny104.out] at ho30)); have n0_ := Aside0.mk (Kd.R_elder' (by (with_reducible repeat (first | apply Kd.R_alloc | apply Kd.R_drewN | apply Kd.R_drew)); exact HO103.out) (Kd.R_base ho30) hb); have n1_ := Aside0.mk (Kd.R_lower (Kd.R_new' ho30 (Kd.R_lt (by (with_reducible repeat (first | apply Kd.R_alloc | apply Kd.R_drewN | apply Kd.R_drew)); exact HO103.out))) (below_size (by repeat (first | (with_reducible first | exact HB.out | apply below_alloc | apply pw_below_drewN | apply below_drew1) | exact HB.out)))); have n2_ := Aside0.mk (below_step (by repeat (first | (with_reducible first | exact HB.out | apply below_alloc | apply pw_below_drewN | apply below_drew1) | exact HB.out)) hb); clear HO103; clear HB; have HO103 := n0_; have HO106 := n1_; have HB := n2_; clear n0_ n1_ n2_; clear hb ho30; obtain ⟨Ao31, co31, eo31⟩ := Kd.R_slice HO103.out; subst eo31; obtain ⟨Ao32, co32, eo32⟩ := Kd.R_slice HO106.out; subst eo32) | ((with_reducible refine gate_dst (N := 8) rfl ?_); (try (refine gate_guard (by rfl) ?_; dsimp only)); refine Kd.N_lit (Kd.slice 9 Kd.string) _ 34 ?hg (N' := 8) ?hd (xs := ([y101, y104] : List (List ByteArray))) (inner := [.slice Ao31 y101.length co31, .slice Ao32 y104.length co32]) (ok := (fun _ => True)) (okp := (fun _ => True)) ?hr ?hp (fun _ hk => hk) ((show ∀ k_, w29.heap.size ≤ k_ → (fun _ => True) k_ from fun k_ hk => trivial) _ (Nat.le_refl _)) (Below.refl _ _) (Nat.le_refl _) (by simp) ?_; (case hd => rfl); (case hg => rfl); (case hr => first | (go_simp; done) | (go_simp; rfl)); (case hp => exact (Reps.one (show Kd.FK (Kd.slice 9 Kd.string) _ _ y101 [.slice Ao31 y101.length co31] from (Kd.FK_slice_mk (Kd.R_reads' (Kd.R_mono (ok' := (fun _ => True)) (HO103.out) (fun k_ hk => trivial))).2.1 (Kd.R_F (Kd.R_mono (ok' := (fun _ => True)) (HO103.out) (fun k_ hk => trivial))))) (Reps.one (show Kd.FK (Kd.slice 9 Kd.string) _ _ y104 [.slice Ao32 y104.length co32] from (Kd.FK_slice_mk (Kd.R_reads' (Kd.R_mono (ok' := (fun _ => True)) (HO106.out) (fun k_ hk => trivial))).2.1 (Kd.R_F (Kd.R_mono (ok' := (fun _ => True)) (HO106.out) (fun k_ hk => trivial))))) (Reps.none _ _)))); intro v108 w33 ho34 hb hg_ hnew_; clear hg_ hnew_; (first | rw [← Ny107.out] at ho34 | (simp only [Int.reduceToNat] at ho34; rw [← Ny107.out] at ho34)); have n0_ := Aside0.mk (Kd.N_lower ho34 (below_size (by repeat (first | (with_reducible first | exact HB.out | apply below_alloc | apply pw_below_drewN | apply below_drew1) | exact HB.out)))); have n1_ := Aside0.mk (below_step (by repeat (first | (with_reducible first | exact HB.out | apply below_alloc | apply pw_below_drewN | apply below_drew1) | exact HB.out)) hb); clear HB; clear HO103; clear HO106; have HO109 := n0_; have HB := n1_; clear n0_ n1_; clear hb ho34; obtain ⟨Ao35, co35, eo35⟩ := Kd.N_slice HO109.out; subst eo35) | ((with_reducible refine gate_callee (f := 17) rfl ?_); refine goesL_ (some 9) rfl rfl Try.func17 (by kernel_rfl) rfl #[.slice Ao35 y107.length co35] rfl (by (try simp only [List.map_toArray, List.map_cons, List.map_nil]); first | done | rfl | (simp only [List.length_drop, List.length_take]; rfl)) ?_; (with_reducible refine (gap_Coalesce.calls _ _ y107 t110 t111 _ ?side1 ?side2 A1.out).mono ?_); (case side1 => repeat (first | exact (Kd.N_reads' HO109.out).2.2 | (with_reducible refine Kd.C_alloc ?_ _) | (with_reducible refine Kd.C_drewN ?_ _) | (with_reducible refine Kd.C_drew ?_))); (case side2 => exact (Kd.N_reads' HO109.out).2.1); rintro e w36 ⟨v112, rfl, ho0, hb⟩; refine ⟨_, rfl, ?_⟩; have n0_ := Aside0.mk (Kd.N_elder' (by (with_reducible repeat (first | apply Kd.N_alloc | apply Kd.N_drewN | apply Kd.N_drew)); exact HO109.out) (Kd.R_base ho0) hb); have n1_ := Aside0.mk (Kd.R_lower ho0 (below_size (by repeat (first | (with_reducible first | exact HB.out | apply below_alloc | apply pw_below_drewN | apply below_drew1) | exact HB.out)))); have n2_ := Aside0.mk (below_step (by repeat (first | (with_reducible first | exact HB.out | apply below_alloc | apply pw_below_drewN | apply below_drew1) | exact HB.out)) hb); clear HO109; clear HB; have HO109 := n0_; have HO113 := n1_; have HB := n2_; clear n0_ n1_ n2_; (try clear hb); (try clear hb2); (try clear hk); (try clear hi); (try clear ho0)) | ((with_reducible refine gate_dst (N := 13) rfl ?_); (try (refine gate_guard (by rfl) ?_; dsimp only)); refine Kd.N_make (Kd.slice 9 Kd.string) _ 34 rfl (N' := 13) rfl 22 _ _ rfl 17 rfl rfl Try.underlying22 (.slice none 0 0) 24 info34 rfl (by decide) (by omega) [] (ok := fun k_ => w36.heap.size ≤ k_) (okp := fun _ => False) (Kd.FK_slice_mk (Nat.le_refl _) (Kd.F_nil _ _ _)) (fun _ hk => hk.elim) (Nat.le_refl _) (by omega) (by omega) (Below.refl _ _) (Nat.le_refl _) ?_; intro v115 w37 ho38 hb hg_ hnew_; clear hg_ hnew_; (first | rw [← Ny114.out] at ho38 | (simp only [Int.reduceToNat] at ho38; rw [← Ny114.out] at ho38)); have n0_ := Aside0.mk (Kd.N_elder' (by (with_reducible repeat (first | apply Kd.N_alloc | apply Kd.N_drewN | apply Kd.N_drew)); exact HO109.out) (Kd.N_base ho38) hb); have n1_ := Aside0.mk (Kd.R_below (by (with_reducible repeat (first | apply Kd.R_alloc | apply Kd.R_drewN | apply Kd.R_drew)); exact HO113.out) hb); have n2_ := Aside0.mk (Kd.N_lower (Kd.N_mono (ok' := fun k_ => some k_ ≠ (.slice Ao35 y107.length co35 : Value).ownBlock ∧ some k_ ≠ (v112 : Value).ownBlock) ho38 (fun k_ hk_ => ⟨(Kd.fresh' (Kd.N_lt (by (with_reducible repeat (first | apply Kd.N_alloc | apply Kd.N_drewN | apply Kd.N_drew)); exact HO109.out)) k_ hk_), (Kd.fresh' (Kd.R_lt (by (with_reducible repeat (first | apply Kd.R_alloc | apply Kd.R_drewN | apply Kd.R_drew)); exact HO113.out)) k_ hk_)⟩)) (below_size (by repeat (first | (with_reducible first | exact HB.out | apply below_alloc | apply pw_below_drewN | apply below_drew1) | exact HB.out)))); have n3_ := Aside0.mk (below_step (by repeat (first | (with_reducible first | exact HB.out | apply below_alloc | apply pw_below_drewN | apply below_drew1) | exact HB.out)) hb); clear HO109; clear HO113; clear HB; have HO109 := n0_; have HO113 := n1_; have HO116 := n2_; have HB := n3_; clear n0_ n1_ n2_ n3_; clear hb ho38; obtain ⟨Ao39, co39, eo39⟩ := Kd.N_slice HO116.out; subst eo39) | ((with_reducible refine gate_callee (f := 17) rfl ?_); refine goesL_ (some 14) rfl rfl Try.func17 (by kernel_rfl) rfl #[.slice Ao39 y114.length co39] rfl (by (try simp only [List.map_toArray, List.map_cons, List.map_nil]); first | done | rfl | (simp only [List.length_drop, List.length_take]; rfl)) ?_; (with_reducible refine (gap_Coalesce.calls _ _ y114 t117 t118 _ ?side1 ?side2 A3.out).mono ?_); (case side1 => repeat (first | exact (Kd.N_reads' HO116.out).2.2 | (with_reducible refine Kd.C_alloc ?_ _) | (with_reducible refine Kd.C_drewN ?_ _) | (with_reducible refine Kd.C_drew ?_))); (case side2 => exact (Kd.N_reads' HO116.out).2.1); rintro e w40 ⟨v119, rfl, ho0, hb⟩; refine ⟨_, rfl, ?_⟩; have n0_ := Aside0.mk (Kd.N_elder' (by (with_reducible repeat (first | apply Kd.N_alloc | apply Kd.N_drewN | apply Kd.N_drew)); exact HO109.out) (Kd.R_base ho0) hb); have n1_ := Aside0.mk (Kd.R_elder' (by (with_reducible repeat (first | apply Kd.R_alloc | apply Kd.R_drewN | apply Kd.R_drew)); exact HO113.out) (Kd.R_base ho0) hb); have n2_ := Aside0.mk (Kd.N_elder' (by (with_reducible repeat (first | apply Kd.N_alloc | apply Kd.N_drewN | apply Kd.N_drew)); exact HO116.out) (Kd.R_base ho0) hb); have n3_ := Aside0.mk (Kd.R_lower (Kd.R_new' ho0 (Kd.R_lt (by (with_reducible repeat (first | apply Kd.R_alloc | apply Kd.R_drewN | apply Kd.R_drew)); exact HO113.out))) (below_size (by repeat (first | (with_reducible first | exact HB.out | apply below_alloc | apply pw_below_drewN | apply below_drew1) | exact HB.out)))); have n4_ := Aside0.mk (below_step (by repeat (first | (with_reducible first | exact HB.out | apply below_alloc | apply pw_below_drewN | apply below_drew1) | exact HB.out)) hb); clear HO109; clear HO113; clear HO116; clear HB; have HO109 := n0_; have HO113 := n1_; have HO116 := n2_; have HO120 := n3_; have HB := n4_; clear n0_ n1_ n2_ n3_ n4_; (try clear hb); (try clear hb2); (try clear hk); (try clear hi); (try clear ho0); obtain ⟨Ao41, co41, eo41⟩ := Kd.R_slice HO113.out; subst eo41; have p121 : 0 ≤ (0 : Int) := (by omega); have q121 : 0 < (t110.length : Int) := of_decide_eq_true (by first | (with_reducible assumption) | assumption); obtain ⟨ad121, e121, hx121_0, hx121_1⟩ := at_T37 (Kd.R_reads' HO113.out).2.2 0 p121 q121; cases e121; have qi121 : (0 < t110.length) = True := eq_true (by omega); (try rw [show ((0 : Int)).toNat = 0 from rfl] at hx121_0); (try rw [show 0 * 2 = 0 from rfl] at hx121_0); (try rw [Addr.add_zero'] at hx121_0); (try rw [show ((0 : Int)).toNat = 0 from rfl] at hx121_1); (try rw [show 0 * 2 = 0 from rfl] at hx121_1); (try rw [Addr.add_zero'] at hx121_1); replace p121 := eq_true p121; replace q121 := eq_true q121; have p122 : 0 ≤ (1 : Int) := (by omega); have q122 : 1 < (t110.length : Int) := of_decide_eq_true (by first | (with_reducible assumption) | assumption); obtain ⟨ad122, e122, hx122_0, hx122_1⟩ := at_T37 (Kd.R_reads' HO113.out).2.2 1 p122 q122; obtain rfl : ad121 = ad122 := (by injection e122); (try simp only [show (1 : Int).toNat = 1 from rfl, Nat.reduceMul, Nat.reduceEqDiff, Go.Addr.add, ↓reduceIte] at hx122_0); (try simp only [show (1 : Int).toNat = 1 from rfl, Nat.reduceMul, Nat.reduceEqDiff, Go.Addr.add, ↓reduceIte] at hx122_1); have qi122 : (1 < t110.length) = True := eq_true (by omega); (try rw [show ((1 : Int)).toNat = 1 from rfl] at hx122_0); (try rw [show 1 * 2 = 2 from rfl] at hx122_0); (try rw [show ((1 : Int)).toNat = 1 from rfl] at hx122_1); (try rw [show 1 * 2 = 2 from rfl] at hx122_1); replace p122 := eq_true p122; replace q122 := eq_true q122))
                  go_ret
                  exact ⟨by first | rfl | (simp [errW_none, errW_some] <;> rfl) | (simp [*, errW_none, errW_some] <;> rfl), by repeat (first | (with_reducible first | exact HB.out | apply below_alloc | apply pw_below_drewN | apply below_drew1) | exact HB.out)⟩
              · rw [if_neg c9] at H
                exact absurd H (by simp)
            · rw [if_neg c8] at H
              have c8b0 : ((((rd_T37 t110 0).f0).toList) == ([45, 32] : List UInt8) && ((((rd_T37 t110 0).f1).toList) == ([97] : List UInt8))) = false := by simpa using c8
              (try (have c8b1 : decide ((((rd_T37 t110 0).f0).toList) = ([45, 32] : List UInt8) && ((((rd_T37 t110 0).f1).toList) == ([97] : List UInt8))) = false := by simpa using c8))
              (try (have c8b2 : ((((rd_T37 t110 0).f0).toList) == ([45, 32] : List UInt8) && ((((rd_T37 t110 0).f1).toList) == ([97] : List UInt8))) = false := by simpa using c8))
              (try (have c8b3 : ¬ ((((rd_T37 t110 0).f0).toList) = ([45, 32] : List UInt8) && ((((rd_T37 t110 0).f1).toList) == ([97] : List UInt8))) := by simpa using c8))
              clear c8
              obtain rfl := Option.some.inj H
              go_enter Try.func15, Try.ntmps15
              go_wp2_with (first | ((with_reducible refine gate_dst (N := 6) rfl ?_); (try (refine gate_guard (by rfl) ?_; dsimp only)); refine Kd.R_lit Kd.string _ 9 ?hg (N := 6) ?hd (xs := ([(⟨#[97]⟩ : ByteArray), (⟨#[98]⟩ : ByteArray)] : List ByteArray)) (inner := [.string (⟨#[97]⟩ : ByteArray), .string (⟨#[98]⟩ : ByteArray)]) (ok := fun _ => True) (okp := fun _ => True) ?hr ?hp (fun _ hk => hk) trivial (Below.refl _ _) (Nat.le_refl _) (by simp) ?_; (case hd => rfl); (case hg => rfl); (case hr => first | (go_simp; done) | (go_simp; rfl)); (case hp => exact (Reps.one (show Kd.M Kd.string _ _ _ (⟨#[97]⟩ : ByteArray) [.string (⟨#[97]⟩ : ByteArray)] from rfl) (Reps.one (show Kd.M Kd.string _ _ _ (⟨#[98]⟩ : ByteArray) [.string (⟨#[98]⟩ : ByteArray)] from rfl) (Reps.none _ _)))); intro v102 w42 ho43 hb hg_ hnew_; clear hg_ hnew_; (first | rw [← Ny101.out] at ho43 | (simp only [Int.reduceToNat] at ho43; rw [← Ny101.out] at ho43)); have n0_ := Aside0.mk (Kd.R_lower ho43 (below_size (by repeat (first | (with_reducible first | exact HB.out | apply below_alloc | apply pw_below_drewN | apply below_drew1) | exact HB.out)))); have n1_ := Aside0.mk (below_step (by repeat (first | (with_reducible first | exact HB.out | apply below_alloc | apply pw_below_drewN | apply below_drew1) | exact HB.out)) hb); clear HB; have HO103 := n0_; have HB := n1_; clear n0_ n1_; clear hb ho43) | ((with_reducible refine gate_dst (N := 7) rfl ?_); (try (refine gate_guard (by rfl) ?_; dsimp only)); refine Kd.R_lit Kd.string _ 9 ?hg (N := 7) ?hd (xs := ([(⟨#[98]⟩ : ByteArray), (⟨#[99]⟩ : ByteArray)] : List ByteArray)) (inner := [.string (⟨#[98]⟩ : ByteArray), .string (⟨#[99]⟩ : ByteArray)]) (ok := fun _ => True) (okp := fun _ => True) ?hr ?hp (fun _ hk => hk) trivial (Below.refl _ _) (Nat.le_refl _) (by simp) ?_; (case hd => rfl); (case hg => rfl); (case hr => first | (go_simp; done) | (go_simp; rfl)); (case hp => exact (Reps.one (show Kd.M Kd.string _ _ _ (⟨#[98]⟩ : ByteArray) [.string (⟨#[98]⟩ : ByteArray)] from rfl) (Reps.one (show Kd.M Kd.string _ _ _ (⟨#[99]⟩ : ByteArray) [.string (⟨#[99]⟩ : ByteArray)] from rfl) (Reps.none _ _)))); intro v105 w44 ho45 hb hg_ hnew_; clear hg_ hnew_; (first | rw [← Ny104.out] at ho45 | (simp only [Int.reduceToNat] at ho45; rw [← Ny104.out] at ho45)); have n0_ := Aside0.mk (Kd.R_elder' (by (with_reducible repeat (first | apply Kd.R_alloc | apply Kd.R_drewN | apply Kd.R_drew)); exact HO103.out) (Kd.R_base ho45) hb); have n1_ := Aside0.mk (Kd.R_lower (Kd.R_new' ho45 (Kd.R_lt (by (with_reducible repeat (first | apply Kd.R_alloc | apply Kd.R_drewN | apply Kd.R_drew)); exact HO103.out))) (below_size (by repeat (first | (with_reducible first | exact HB.out | apply below_alloc | apply pw_below_drewN | apply below_drew1) | exact HB.out)))); have n2_ := Aside0.mk (below_step (by repeat (first | (with_reducible first | exact HB.out | apply below_alloc | apply pw_below_drewN | apply below_drew1) | exact HB.out)) hb); clear HO103; clear HB; have HO103 := n0_; have HO106 := n1_; have HB := n2_; clear n0_ n1_ n2_; clear hb ho45; obtain ⟨Ao46, co46, eo46⟩ := Kd.R_slice HO103.out; subst eo46; obtain ⟨Ao47, co47, eo47⟩ := Kd.R_slice HO106.out; subst eo47) | ((with_reducible refine gate_dst (N := 8) rfl ?_); (try (refine gate_guard (by rfl) ?_; dsimp only)); refine Kd.N_lit (Kd.slice 9 Kd.string) _ 34 ?hg (N' := 8) ?hd (xs := ([y101, y104] : List (List ByteArray))) (inner := [.slice Ao46 y101.length co46, .slice Ao47 y104.length co47]) (ok := (fun _ => True)) (okp := (fun _ => True)) ?hr ?hp (fun _ hk => hk) ((show ∀ k_, w44.heap.size ≤ k_ → (fun _ => True) k_ from fun k_ hk => trivial) _ (Nat.le_refl _)) (Below.refl _ _) (Nat.le_refl _) (by simp) ?_; (case hd => rfl); (case hg => rfl); (case hr => first | (go_simp; done) | (go_simp; rfl)); (case hp => exact (Reps.one (show Kd.FK (Kd.slice 9 Kd.string) _ _ y101 [.slice Ao46 y101.length co46] from (Kd.FK_slice_mk (Kd.R_reads' (Kd.R_mono (ok' := (fun _ => True)) (HO103.out) (fun k_ hk => trivial))).2.1 (Kd.R_F (Kd.R_mono (ok' := (fun _ => True)) (HO103.out) (fun k_ hk => trivial))))) (Reps.one (show Kd.FK (Kd.slice 9 Kd.string) _ _ y104 [.slice Ao47 y104.length co47] from (Kd.FK_slice_mk (Kd.R_reads' (Kd.R_mono (ok' := (fun _ => True)) (HO106.out) (fun k_ hk => trivial))).2.1 (Kd.R_F (Kd.R_mono (ok' := (fun _ => True)) (HO106.out) (fun k_ hk => trivial))))) (Reps.none _ _)))); intro v108 w48 ho49 hb hg_ hnew_; clear hg_ hnew_; (first | rw [← Ny107.out] at ho49 | (simp only [Int.reduceToNat] at ho49; rw [← Ny107.out] at ho49)); have n0_ := Aside0.mk (Kd.N_lower ho49 (below_size (by repeat (first | (with_reducible first | exact HB.out | apply below_alloc | apply pw_below_drewN | apply below_drew1) | exact HB.out)))); have n1_ := Aside0.mk (below_step (by repeat (first | (with_reducible first | exact HB.out | apply below_alloc | apply pw_below_drewN | apply below_drew1) | exact HB.out)) hb); clear HB; clear HO103; clear HO106; have HO109 := n0_; have HB := n1_; clear n0_ n1_; clear hb ho49; obtain ⟨Ao50, co50, eo50⟩ := Kd.N_slice HO109.out; subst eo50) | ((with_reducible refine gate_callee (f := 17) rfl ?_); refine goesL_ (some 9) rfl rfl Try.func17 (by kernel_rfl) rfl #[.slice Ao50 y107.length co50] rfl (by (try simp only [List.map_toArray, List.map_cons, List.map_nil]); first | done | rfl | (simp only [List.length_drop, List.length_take]; rfl)) ?_; (with_reducible refine (gap_Coalesce.calls _ _ y107 t110 t111 _ ?side1 ?side2 A1.out).mono ?_); (case side1 => repeat (first | exact (Kd.N_reads' HO109.out).2.2 | (with_reducible refine Kd.C_alloc ?_ _) | (with_reducible refine Kd.C_drewN ?_ _) | (with_reducible refine Kd.C_drew ?_))); (case side2 => exact (Kd.N_reads' HO109.out).2.1); rintro e w51 ⟨v112, rfl, ho0, hb⟩; refine ⟨_, rfl, ?_⟩; have n0_ := Aside0.mk (Kd.N_elder' (by (with_reducible repeat (first | apply Kd.N_alloc | apply Kd.N_drewN | apply Kd.N_drew)); exact HO109.out) (Kd.R_base ho0) hb); have n1_ := Aside0.mk (Kd.R_lower ho0 (below_size (by repeat (first | (with_reducible first | exact HB.out | apply below_alloc | apply pw_below_drewN | apply below_drew1) | exact HB.out)))); have n2_ := Aside0.mk (below_step (by repeat (first | (with_reducible first | exact HB.out | apply below_alloc | apply pw_below_drewN | apply below_drew1) | exact HB.out)) hb); clear HO109; clear HB; have HO109 := n0_; have HO113 := n1_; have HB := n2_; clear n0_ n1_ n2_; (try clear hb); (try clear hb2); (try clear hk); (try clear hi); (try clear ho0)) | ((with_reducible refine gate_dst (N := 13) rfl ?_); (try (refine gate_guard (by rfl) ?_; dsimp only)); refine Kd.N_make (Kd.slice 9 Kd.string) _ 34 rfl (N' := 13) rfl 22 _ _ rfl 17 rfl rfl Try.underlying22 (.slice none 0 0) 24 info34 rfl (by decide) (by omega) [] (ok := fun k_ => w51.heap.size ≤ k_) (okp := fun _ => False) (Kd.FK_slice_mk (Nat.le_refl _) (Kd.F_nil _ _ _)) (fun _ hk => hk.elim) (Nat.le_refl _) (by omega) (by omega) (Below.refl _ _) (Nat.le_refl _) ?_; intro v115 w52 ho53 hb hg_ hnew_; clear hg_ hnew_; (first | rw [← Ny114.out] at ho53 | (simp only [Int.reduceToNat] at ho53; rw [← Ny114.out] at ho53)); have n0_ := Aside0.mk (Kd.N_elder' (by (with_reducible repeat (first | apply Kd.N_alloc | apply Kd.N_drewN | apply Kd.N_drew)); exact HO109.out) (Kd.N_base ho53) hb); have n1_ := Aside0.mk (Kd.R_below (by (with_reducible repeat (first | apply Kd.R_alloc | apply Kd.R_drewN | apply Kd.R_drew)); exact HO113.out) hb); have n2_ := Aside0.mk (Kd.N_lower (Kd.N_mono (ok' := fun k_ => some k_ ≠ (.slice Ao50 y107.length co50 : Value).ownBlock ∧ some k_ ≠ (v112 : Value).ownBlock) ho53 (fun k_ hk_ => ⟨(Kd.fresh' (Kd.N_lt (by (with_reducible repeat (first | apply Kd.N_alloc | apply Kd.N_drewN | apply Kd.N_drew)); exact HO109.out)) k_ hk_), (Kd.fresh' (Kd.R_lt (by (with_reducible repeat (first | apply Kd.R_alloc | apply Kd.R_drewN | apply Kd.R_drew)); exact HO113.out)) k_ hk_)⟩)) (below_size (by repeat (first | (with_reducible first | exact HB.out | apply below_alloc | apply pw_below_drewN | apply below_drew1) | exact HB.out)))); have n3_ := Aside0.mk (below_step (by repeat (first | (with_reducible first | exact HB.out | apply below_alloc | apply pw_below_drewN | apply below_drew1) | exact HB.out)) hb); clear HO109; clear HO113; clear HB; have HO109 := n0_; have HO113 := n1_; have HO116 := n2_; have HB := n3_; clear n0_ n1_ n2_ n3_; clear hb ho53; obtain ⟨Ao54, co54, eo54⟩ := Kd.N_slice HO116.out; subst eo54) | ((with_reducible refine gate_callee (f := 17) rfl ?_); refine goesL_ (some 14) rfl rfl Try.func17 (by kernel_rfl) rfl #[.slice Ao54 y114.length co54] rfl (by (try simp only [List.map_toArray, List.map_cons, List.map_nil]); first | done | rfl | (simp only [List.length_drop, List.length_take]; rfl)) ?_; (with_reducible refine (gap_Coalesce.calls _ _ y114 t117 t118 _ ?side1 ?side2 A3.out).mono ?_); (case side1 => repeat (first | exact (Kd.N_reads' HO116.out).2.2 | (with_reducible refine Kd.C_alloc ?_ _) | (with_reducible refine Kd.C_drewN ?_ _) | (with_reducible refine Kd.C_drew ?_))); (case side2 => exact (Kd.N_reads' HO116.out).2.1); rintro e w55 ⟨v119, rfl, ho0, hb⟩; refine ⟨_, rfl, ?_⟩; have n0_ := Aside0.mk (Kd.N_elder' (by (with_reducible repeat (first | apply Kd.N_alloc | apply Kd.N_drewN | apply Kd.N_drew)); exact HO109.out) (Kd.R_base ho0) hb); have n1_ := Aside0.mk (Kd.R_elder' (by (with_reducible repeat (first | apply Kd.R_alloc | apply Kd.R_drewN | apply Kd.R_drew)); exact HO113.out) (Kd.R_base ho0) hb); have n2_ := Aside0.mk (Kd.N_elder' (by (with_reducible repeat (first | apply Kd.N_alloc | apply Kd.N_drewN | apply Kd.N_drew)); exact HO116.out) (Kd.R_base ho0) hb); have n3_ := Aside0.mk (Kd.R_lower (Kd.R_new' ho0 (Kd.R_lt (by (with_reducible repeat (first | apply Kd.R_alloc | apply Kd.R_drewN | apply Kd.R_drew)); exact HO113.out))) (below_size (by repeat (first | (with_reducible first | exact HB.out | apply below_alloc | apply pw_below_drewN | apply below_drew1) | exact HB.out)))); have n4_ := Aside0.mk (below_step (by repeat (first | (with_reducible first | exact HB.out | apply below_alloc | apply pw_below_drewN | apply below_drew1) | exact HB.out)) hb); clear HO109; clear HO113; clear HO116; clear HB; have HO109 := n0_; have HO113 := n1_; have HO116 := n2_; have HO120 := n3_; have HB := n4_; clear n0_ n1_ n2_ n3_ n4_; (try clear hb); (try clear hb2); (try clear hk); (try clear hi); (try clear ho0); obtain ⟨Ao56, co56, eo56⟩ := Kd.R_slice HO113.out; subst eo56; have p121 : 0 ≤ (0 : Int) := (by omega); have q121 : 0 < (t110.length : Int) := of_decide_eq_true (by first | (with_reducible assumption) | assumption); obtain ⟨ad121, e121, hx121_0, hx121_1⟩ := at_T37 (Kd.R_reads' HO113.out).2.2 0 p121 q121; cases e121; have qi121 : (0 < t110.length) = True := eq_true (by omega); (try rw [show ((0 : Int)).toNat = 0 from rfl] at hx121_0); (try rw [show 0 * 2 = 0 from rfl] at hx121_0); (try rw [Addr.add_zero'] at hx121_0); (try rw [show ((0 : Int)).toNat = 0 from rfl] at hx121_1); (try rw [show 0 * 2 = 0 from rfl] at hx121_1); (try rw [Addr.add_zero'] at hx121_1); replace p121 := eq_true p121; replace q121 := eq_true q121))
              go_ret
              exact ⟨by first | rfl | (simp [errW_none, errW_some] <;> rfl) | (simp [*, errW_none, errW_some] <;> rfl), by repeat (first | (with_reducible first | exact HB.out | apply below_alloc | apply pw_below_drewN | apply below_drew1) | exact HB.out)⟩
          · rw [if_neg c7] at H
            exact absurd H (by simp)
        · rw [if_neg c6] at H
          have c6b0 : ((t110.length : Int) == 3) = false := beq_eq_false_iff_ne.mpr c6
          have c6b1 : ((t110.length : Int) != 3) = true := bne_iff_ne.mpr c6
          obtain rfl := Option.some.inj H
          go_enter Try.func15, Try.ntmps15
          go_wp2_with (first | ((with_reducible refine gate_dst (N := 6) rfl ?_); (try (refine gate_guard (by rfl) ?_; dsimp only)); refine Kd.R_lit Kd.string _ 9 ?hg (N := 6) ?hd (xs := ([(⟨#[97]⟩ : ByteArray), (⟨#[98]⟩ : ByteArray)] : List ByteArray)) (inner := [.string (⟨#[97]⟩ : ByteArray), .string (⟨#[98]⟩ : ByteArray)]) (ok := fun _ => True) (okp := fun _ => True) ?hr ?hp (fun _ hk => hk) trivial (Below.refl _ _) (Nat.le_refl _) (by simp) ?_; (case hd => rfl); (case hg => rfl); (case hr => first | (go_simp; done) | (go_simp; rfl)); (case hp => exact (Reps.one (show Kd.M Kd.string _ _ _ (⟨#[97]⟩ : ByteArray) [.string (⟨#[97]⟩ : ByteArray)] from rfl) (Reps.one (show Kd.M Kd.string _ _ _ (⟨#[98]⟩ : ByteArray) [.string (⟨#[98]⟩ : ByteArray)] from rfl) (Reps.none _ _)))); intro v102 w57 ho58 hb hg_ hnew_; clear hg_ hnew_; (first | rw [← Ny101.out] at ho58 | (simp only [Int.reduceToNat] at ho58; rw [← Ny101.out] at ho58)); have n0_ := Aside0.mk (Kd.R_lower ho58 (below_size (by repeat (first | (with_reducible first | exact HB.out | apply below_alloc | apply pw_below_drewN | apply below_drew1) | exact HB.out)))); have n1_ := Aside0.mk (below_step (by repeat (first | (with_reducible first | exact HB.out | apply below_alloc | apply pw_below_drewN | apply below_drew1) | exact HB.out)) hb); clear HB; have HO103 := n0_; have HB := n1_; clear n0_ n1_; clear hb ho58) | ((with_reducible refine gate_dst (N := 7) rfl ?_); (try (refine gate_guard (by rfl) ?_; dsimp only)); refine Kd.R_lit Kd.string _ 9 ?hg (N := 7) ?hd (xs := ([(⟨#[98]⟩ : ByteArray), (⟨#[99]⟩ : ByteArray)] : List ByteArray)) (inner := [.string (⟨#[98]⟩ : ByteArray), .string (⟨#[99]⟩ : ByteArray)]) (ok := fun _ => True) (okp := fun _ => True) ?hr ?hp (fun _ hk => hk) trivial (Below.refl _ _) (Nat.le_refl _) (by simp) ?_; (case hd => rfl); (case hg => rfl); (case hr => first | (go_simp; done) | (go_simp; rfl)); (case hp => exact (Reps.one (show Kd.M Kd.string _ _ _ (⟨#[98]⟩ : ByteArray) [.string (⟨#[98]⟩ : ByteArray)] from rfl) (Reps.one (show Kd.M Kd.string _ _ _ (⟨#[99]⟩ : ByteArray) [.string (⟨#[99]⟩ : ByteArray)] from rfl) (Reps.none _ _)))); intro v105 w59 ho60 hb hg_ hnew_; clear hg_ hnew_; (first | rw [← Ny104.out] at ho60 | (simp only [Int.reduceToNat] at ho60; rw [← Ny104.out] at ho60)); have n0_ := Aside0.mk (Kd.R_elder' (by (with_reducible repeat (first | apply Kd.R_alloc | apply Kd.R_drewN | apply Kd.R_drew)); exact HO103.out) (Kd.R_base ho60) hb); have n1_ := Aside0.mk (Kd.R_lower (Kd.R_new' ho60 (Kd.R_lt (by (with_reducible repeat (first | apply Kd.R_alloc | apply Kd.R_drewN | apply Kd.R_drew)); exact HO103.out))) (below_size (by repeat (first | (with_reducible first | exact HB.out | apply below_alloc | apply pw_below_drewN | apply below_drew1) | exact HB.out)))); have n2_ := Aside0.mk (below_step (by repeat (first | (with_reducible first | exact HB.out | apply below_alloc | apply pw_below_drewN | apply below_drew1) | exact HB.out)) hb); clear HO103; clear HB; have HO103 := n0_; have HO106 := n1_; have HB := n2_; clear n0_ n1_ n2_; clear hb ho60; obtain ⟨Ao61, co61, eo61⟩ := Kd.R_slice HO103.out; subst eo61; obtain ⟨Ao62, co62, eo62⟩ := Kd.R_slice HO106.out; subst eo62) | ((with_reducible refine gate_dst (N := 8) rfl ?_); (try (refine gate_guard (by rfl) ?_; dsimp only)); refine Kd.N_lit (Kd.slice 9 Kd.string) _ 34 ?hg (N' := 8) ?hd (xs := ([y101, y104] : List (List ByteArray))) (inner := [.slice Ao61 y101.length co61, .slice Ao62 y104.length co62]) (ok := (fun _ => True)) (okp := (fun _ => True)) ?hr ?hp (fun _ hk => hk) ((show ∀ k_, w59.heap.size ≤ k_ → (fun _ => True) k_ from fun k_ hk => trivial) _ (Nat.le_refl _)) (Below.refl _ _) (Nat.le_refl _) (by simp) ?_; (case hd => rfl); (case hg => rfl); (case hr => first | (go_simp; done) | (go_simp; rfl)); (case hp => exact (Reps.one (show Kd.FK (Kd.slice 9 Kd.string) _ _ y101 [.slice Ao61 y101.length co61] from (Kd.FK_slice_mk (Kd.R_reads' (Kd.R_mono (ok' := (fun _ => True)) (HO103.out) (fun k_ hk => trivial))).2.1 (Kd.R_F (Kd.R_mono (ok' := (fun _ => True)) (HO103.out) (fun k_ hk => trivial))))) (Reps.one (show Kd.FK (Kd.slice 9 Kd.string) _ _ y104 [.slice Ao62 y104.length co62] from (Kd.FK_slice_mk (Kd.R_reads' (Kd.R_mono (ok' := (fun _ => True)) (HO106.out) (fun k_ hk => trivial))).2.1 (Kd.R_F (Kd.R_mono (ok' := (fun _ => True)) (HO106.out) (fun k_ hk => trivial))))) (Reps.none _ _)))); intro v108 w63 ho64 hb hg_ hnew_; clear hg_ hnew_; (first | rw [← Ny107.out] at ho64 | (simp only [Int.reduceToNat] at ho64; rw [← Ny107.out] at ho64)); have n0_ := Aside0.mk (Kd.N_lower ho64 (below_size (by repeat (first | (with_reducible first | exact HB.out | apply below_alloc | apply pw_below_drewN | apply below_drew1) | exact HB.out)))); have n1_ := Aside0.mk (below_step (by repeat (first | (with_reducible first | exact HB.out | apply below_alloc | apply pw_below_drewN | apply below_drew1) | exact HB.out)) hb); clear HB; clear HO103; clear HO106; have HO109 := n0_; have HB := n1_; clear n0_ n1_; clear hb ho64; obtain ⟨Ao65, co65, eo65⟩ := Kd.N_slice HO109.out; subst eo65) | ((with_reducible refine gate_callee (f := 17) rfl ?_); refine goesL_ (some 9) rfl rfl Try.func17 (by kernel_rfl) rfl #[.slice Ao65 y107.length co65] rfl (by (try simp only [List.map_toArray, List.map_cons, List.map_nil]); first | done | rfl | (simp only [List.length_drop, List.length_take]; rfl)) ?_; (with_reducible refine (gap_Coalesce.calls _ _ y107 t110 t111 _ ?side1 ?side2 A1.out).mono ?_); (case side1 => repeat (first | exact (Kd.N_reads' HO109.out).2.2 | (with_reducible refine Kd.C_alloc ?_ _) | (with_reducible refine Kd.C_drewN ?_ _) | (with_reducible refine Kd.C_drew ?_))); (case side2 => exact (Kd.N_reads' HO109.out).2.1); rintro e w66 ⟨v112, rfl, ho0, hb⟩; refine ⟨_, rfl, ?_⟩; have n0_ := Aside0.mk (Kd.N_elder' (by (with_reducible repeat (first | apply Kd.N_alloc | apply Kd.N_drewN | apply Kd.N_drew)); exact HO109.out) (Kd.R_base ho0) hb); have n1_ := Aside0.mk (Kd.R_lower ho0 (below_size (by repeat (first | (with_reducible first | exact HB.out | apply below_alloc | apply pw_below_drewN | apply below_drew1) | exact HB.out)))); have n2_ := Aside0.mk (below_step (by repeat (first | (with_reducible first | exact HB.out | apply below_alloc | apply pw_below_drewN | apply below_drew1) | exact HB.out)) hb); clear HO109; clear HB; have HO109 := n0_; have HO113 := n1_; have HB := n2_; clear n0_ n1_ n2_; (try clear hb); (try clear hb2); (try clear hk); (try clear hi); (try clear ho0)) | ((with_reducible refine gate_dst (N := 13) rfl ?_); (try (refine gate_guard (by rfl) ?_; dsimp only)); refine Kd.N_make (Kd.slice 9 Kd.string) _ 34 rfl (N' := 13) rfl 22 _ _ rfl 17 rfl rfl Try.underlying22 (.slice none 0 0) 24 info34 rfl (by decide) (by omega) [] (ok := fun k_ => w66.heap.size ≤ k_) (okp := fun _ => False) (Kd.FK_slice_mk (Nat.le_refl _) (Kd.F_nil _ _ _)) (fun _ hk => hk.elim) (Nat.le_refl _) (by omega) (by omega) (Below.refl _ _) (Nat.le_refl _) ?_; intro v115 w67 ho68 hb hg_ hnew_; clear hg_ hnew_; (first | rw [← Ny114.out] at ho68 | (simp only [Int.reduceToNat] at ho68; rw [← Ny114.out] at ho68)); have n0_ := Aside0.mk (Kd.N_elder' (by (with_reducible repeat (first | apply Kd.N_alloc | apply Kd.N_drewN | apply Kd.N_drew)); exact HO109.out) (Kd.N_base ho68) hb); have n1_ := Aside0.mk (Kd.R_below (by (with_reducible repeat (first | apply Kd.R_alloc | apply Kd.R_drewN | apply Kd.R_drew)); exact HO113.out) hb); have n2_ := Aside0.mk (Kd.N_lower (Kd.N_mono (ok' := fun k_ => some k_ ≠ (.slice Ao65 y107.length co65 : Value).ownBlock ∧ some k_ ≠ (v112 : Value).ownBlock) ho68 (fun k_ hk_ => ⟨(Kd.fresh' (Kd.N_lt (by (with_reducible repeat (first | apply Kd.N_alloc | apply Kd.N_drewN | apply Kd.N_drew)); exact HO109.out)) k_ hk_), (Kd.fresh' (Kd.R_lt (by (with_reducible repeat (first | apply Kd.R_alloc | apply Kd.R_drewN | apply Kd.R_drew)); exact HO113.out)) k_ hk_)⟩)) (below_size (by repeat (first | (with_reducible first | exact HB.out | apply below_alloc | apply pw_below_drewN | apply below_drew1) | exact HB.out)))); have n3_ := Aside0.mk (below_step (by repeat (first | (with_reducible first | exact HB.out | apply below_alloc | apply pw_below_drewN | apply below_drew1) | exact HB.out)) hb); clear HO109; clear HO113; clear HB; have HO109 := n0_; have HO113 := n1_; have HO116 := n2_; have HB := n3_; clear n0_ n1_ n2_ n3_; clear hb ho68; obtain ⟨Ao69, co69, eo69⟩ := Kd.N_slice HO116.out; subst eo69) | ((with_reducible refine gate_callee (f := 17) rfl ?_); refine goesL_ (some 14) rfl rfl Try.func17 (by kernel_rfl) rfl #[.slice Ao69 y114.length co69] rfl (by (try simp only [List.map_toArray, List.map_cons, List.map_nil]); first | done | rfl | (simp only [List.length_drop, List.length_take]; rfl)) ?_; (with_reducible refine (gap_Coalesce.calls _ _ y114 t117 t118 _ ?side1 ?side2 A3.out).mono ?_); (case side1 => repeat (first | exact (Kd.N_reads' HO116.out).2.2 | (with_reducible refine Kd.C_alloc ?_ _) | (with_reducible refine Kd.C_drewN ?_ _) | (with_reducible refine Kd.C_drew ?_))); (case side2 => exact (Kd.N_reads' HO116.out).2.1); rintro e w70 ⟨v119, rfl, ho0, hb⟩; refine ⟨_, rfl, ?_⟩; have n0_ := Aside0.mk (Kd.N_elder' (by (with_reducible repeat (first | apply Kd.N_alloc | apply Kd.N_drewN | apply Kd.N_drew)); exact HO109.out) (Kd.R_base ho0) hb); have n1_ := Aside0.mk (Kd.R_elder' (by (with_reducible repeat (first | apply Kd.R_alloc | apply Kd.R_drewN | apply Kd.R_drew)); exact HO113.out) (Kd.R_base ho0) hb); have n2_ := Aside0.mk (Kd.N_elder' (by (with_reducible repeat (first | apply Kd.N_alloc | apply Kd.N_drewN | apply Kd.N_drew)); exact HO116.out) (Kd.R_base ho0) hb); have n3_ := Aside0.mk (Kd.R_lower (Kd.R_new' ho0 (Kd.R_lt (by (with_reducible repeat (first | apply Kd.R_alloc | apply Kd.R_drewN | apply Kd.R_drew)); exact HO113.out))) (below_size (by repeat (first | (with_reducible first | exact HB.out | apply below_alloc | apply pw_below_drewN | apply below_drew1) | exact HB.out)))); have n4_ := Aside0.mk (below_step (by repeat (first | (with_reducible first | exact HB.out | apply below_alloc | apply pw_below_drewN | apply below_drew1) | exact HB.out)) hb); clear HO109; clear HO113; clear HO116; clear HB; have HO109 := n0_; have HO113 := n1_; have HO116 := n2_; have HO120 := n3_; have HB := n4_; clear n0_ n1_ n2_ n3_ n4_; (try clear hb); (try clear hb2); (try clear hk); (try clear hi); (try clear ho0); obtain ⟨Ao71, co71, eo71⟩ := Kd.R_slice HO113.out; subst eo71))
          go_ret
          exact ⟨by first | rfl | (simp [errW_none, errW_some] <;> rfl) | (simp [*, errW_none, errW_some] <;> rfl), by repeat (first | (with_reducible first | exact HB.out | apply below_alloc | apply pw_below_drewN | apply below_drew1) | exact HB.out)⟩
      · rw [if_neg c5] at H
        have c5b0 : (t118 == 1) = false := beq_eq_false_iff_ne.mpr c5
        have c5b1 : (t118 != 1) = true := bne_iff_ne.mpr c5
        obtain rfl := Option.some.inj H
        go_enter Try.func15, Try.ntmps15
        go_wp2_with (first | ((with_reducible refine gate_dst (N := 6) rfl ?_); (try (refine gate_guard (by rfl) ?_; dsimp only)); refine Kd.R_lit Kd.string _ 9 ?hg (N := 6) ?hd (xs := ([(⟨#[97]⟩ : ByteArray), (⟨#[98]⟩ : ByteArray)] : List ByteArray)) (inner := [.string (⟨#[97]⟩ : ByteArray), .string (⟨#[98]⟩ : ByteArray)]) (ok := fun _ => True) (okp := fun _ => True) ?hr ?hp (fun _ hk => hk) trivial (Below.refl _ _) (Nat.le_refl _) (by simp) ?_; (case hd => rfl); (case hg => rfl); (case hr => first | (go_simp; done) | (go_simp; rfl)); (case hp => exact (Reps.one (show Kd.M Kd.string _ _ _ (⟨#[97]⟩ : ByteArray) [.string (⟨#[97]⟩ : ByteArray)] from rfl) (Reps.one (show Kd.M Kd.string _ _ _ (⟨#[98]⟩ : ByteArray) [.string (⟨#[98]⟩ : ByteArray)] from rfl) (Reps.none _ _)))); intro v102 w72 ho73 hb hg_ hnew_; clear hg_ hnew_; (first | rw [← Ny101.out] at ho73 | (simp only [Int.reduceToNat] at ho73; rw [← Ny101.out] at ho73)); have n0_ := Aside0.mk (Kd.R_lower ho73 (below_size (by repeat (first | (with_reducible first | exact HB.out | apply below_alloc | apply pw_below_drewN | apply below_drew1) | exact HB.out)))); have n1_ := Aside0.mk (below_step (by repeat (first | (with_reducible first | exact HB.out | apply below_alloc | apply pw_below_drewN | apply below_drew1) | exact HB.out)) hb); clear HB; have HO103 := n0_; have HB := n1_; clear n0_ n1_; clear hb ho73) | ((with_reducible refine gate_dst (N := 7) rfl ?_); (try (refine gate_guard (by rfl) ?_; dsimp only)); refine Kd.R_lit Kd.string _ 9 ?hg (N := 7) ?hd (xs := ([(⟨#[98]⟩ : ByteArray), (⟨#[99]⟩ : ByteArray)] : List ByteArray)) (inner := [.string (⟨#[98]⟩ : ByteArray), .string (⟨#[99]⟩ : ByteArray)]) (ok := fun _ => True) (okp := fun _ => True) ?hr ?hp (fun _ hk => hk) trivial (Below.refl _ _) (Nat.le_refl _) (by simp) ?_; (case hd => rfl); (case hg => rfl); (case hr => first | (go_simp; done) | (go_simp; rfl)); (case hp => exact (Reps.one (show Kd.M Kd.string _ _ _ (⟨#[98]⟩ : ByteArray) [.string (⟨#[98]⟩ : ByteArray)] from rfl) (Reps.one (show Kd.M Kd.string _ _ _ (⟨#[99]⟩ : ByteArray) [.string (⟨#[99]⟩ : ByteArray)] from rfl) (Reps.none _ _)))); intro v105 w74 ho75 hb hg_ hnew_; clear hg_ hnew_; (first | rw [← Ny104.out] at ho75 | (simp only [Int.reduceToNat] at ho75; rw [← Ny104.out] at ho75)); have n0_ := Aside0.mk (Kd.R_elder' (by (with_reducible repeat (first | apply Kd.R_alloc | apply Kd.R_drewN | apply Kd.R_drew)); exact HO103.out) (Kd.R_base ho75) hb); have n1_ := Aside0.mk (Kd.R_lower (Kd.R_new' ho75 (Kd.R_lt (by (with_reducible repeat (first | apply Kd.R_alloc | apply Kd.R_drewN | apply Kd.R_drew)); exact HO103.out))) (below_size (by repeat (first | (with_reducible first | exact HB.out | apply below_alloc | apply pw_below_drewN | apply below_drew1) | exact HB.out)))); have n2_ := Aside0.mk (below_step (by repeat (first | (with_reducible first | exact HB.out | apply below_alloc | apply pw_below_drewN | apply below_drew1) | exact HB.out)) hb); clear HO103; clear HB; have HO103 := n0_; have HO106 := n1_; have HB := n2_; clear n0_ n1_ n2_; clear hb ho75; obtain ⟨Ao76, co76, eo76⟩ := Kd.R_slice HO103.out; subst eo76; obtain ⟨Ao77, co77, eo77⟩ := Kd.R_slice HO106.out; subst eo77) | ((with_reducible refine gate_dst (N := 8) rfl ?_); (try (refine gate_guard (by rfl) ?_; dsimp only)); refine Kd.N_lit (Kd.slice 9 Kd.string) _ 34 ?hg (N' := 8) ?hd (xs := ([y101, y104] : List (List ByteArray))) (inner := [.slice Ao76 y101.length co76, .slice Ao77 y104.length co77]) (ok := (fun _ => True)) (okp := (fun _ => True)) ?hr ?hp (fun _ hk => hk) ((show ∀ k_, w74.heap.size ≤ k_ → (fun _ => True) k_ from fun k_ hk => trivial) _ (Nat.le_refl _)) (Below.refl _ _) (Nat.le_refl _) (by simp) ?_; (case hd => rfl); (case hg => rfl); (case hr => first | (go_simp; done) | (go_simp; rfl)); (case hp => exact (Reps.one (show Kd.FK (Kd.slice 9 Kd.string) _ _ y101 [.slice Ao76 y101.length co76] from (Kd.FK_slice_mk (Kd.R_reads' (Kd.R_mono (ok' := (fun _ => True)) (HO103.out) (fun k_ hk => trivial))).2.1 (Kd.R_F (Kd.R_mono (ok' := (fun _ => True)) (HO103.out) (fun k_ hk => trivial))))) (Reps.one (show Kd.FK (Kd.slice 9 Kd.string) _ _ y104 [.slice Ao77 y104.length co77] from (Kd.FK_slice_mk (Kd.R_reads' (Kd.R_mono (ok' := (fun _ => True)) (HO106.out) (fun k_ hk => trivial))).2.1 (Kd.R_F (Kd.R_mono (ok' := (fun _ => True)) (HO106.out) (fun k_ hk => trivial))))) (Reps.none _ _)))); intro v108 w78 ho79 hb hg_ hnew_; clear hg_ hnew_; (first | rw [← Ny107.out] at ho79 | (simp only [Int.reduceToNat] at ho79; rw [← Ny107.out] at ho79)); have n0_ := Aside0.mk (Kd.N_lower ho79 (below_size (by repeat (first | (with_reducible first | exact HB.out | apply below_alloc | apply pw_below_drewN | apply below_drew1) | exact HB.out)))); have n1_ := Aside0.mk (below_step (by repeat (first | (with_reducible first | exact HB.out | apply below_alloc | apply pw_below_drewN | apply below_drew1) | exact HB.out)) hb); clear HB; clear HO103; clear HO106; have HO109 := n0_; have HB := n1_; clear n0_ n1_; clear hb ho79; obtain ⟨Ao80, co80, eo80⟩ := Kd.N_slice HO109.out; subst eo80) | ((with_reducible refine gate_callee (f := 17) rfl ?_); refine goesL_ (some 9) rfl rfl Try.func17 (by kernel_rfl) rfl #[.slice Ao80 y107.length co80] rfl (by (try simp only [List.map_toArray, List.map_cons, List.map_nil]); first | done | rfl | (simp only [List.length_drop, List.length_take]; rfl)) ?_; (with_reducible refine (gap_Coalesce.calls _ _ y107 t110 t111 _ ?side1 ?side2 A1.out).mono ?_); (case side1 => repeat (first | exact (Kd.N_reads' HO109.out).2.2 | (with_reducible refine Kd.C_alloc ?_ _) | (with_reducible refine Kd.C_drewN ?_ _) | (with_reducible refine Kd.C_drew ?_))); (case side2 => exact (Kd.N_reads' HO109.out).2.1); rintro e w81 ⟨v112, rfl, ho0, hb⟩; refine ⟨_, rfl, ?_⟩; have n0_ := Aside0.mk (Kd.N_elder' (by (with_reducible repeat (first | apply Kd.N_alloc | apply Kd.N_drewN | apply Kd.N_drew)); exact HO109.out) (Kd.R_base ho0) hb); have n1_ := Aside0.mk (Kd.R_lower ho0 (below_size (by repeat (first | (with_reducible first | exact HB.out | apply below_alloc | apply pw_below_drewN | apply below_drew1) | exact HB.out)))); have n2_ := Aside0.mk (below_step (by repeat (first | (with_reducible first | exact HB.out | apply below_alloc | apply pw_below_drewN | apply below_drew1) | exact HB.out)) hb); clear HO109; clear HB; have HO109 := n0_; have HO113 := n1_; have HB := n2_; clear n0_ n1_ n2_; (try clear hb); (try clear hb2); (try clear hk); (try clear hi); (try clear ho0)) | ((with_reducible refine gate_dst (N := 13) rfl ?_); (try (refine gate_guard (by rfl) ?_; dsimp only)); refine Kd.N_make (Kd.slice 9 Kd.string) _ 34 rfl (N' := 13) rfl 22 _ _ rfl 17 rfl rfl Try.underlying22 (.slice none 0 0) 24 info34 rfl (by decide) (by omega) [] (ok := fun k_ => w81.heap.size ≤ k_) (okp := fun _ => False) (Kd.FK_slice_mk (Nat.le_refl _) (Kd.F_nil _ _ _)) (fun _ hk => hk.elim) (Nat.le_refl _) (by omega) (by omega) (Below.refl _ _) (Nat.le_refl _) ?_; intro v115 w82 ho83 hb hg_ hnew_; clear hg_ hnew_; (first | rw [← Ny114.out] at ho83 | (simp only [Int.reduceToNat] at ho83; rw [← Ny114.out] at ho83)); have n0_ := Aside0.mk (Kd.N_elder' (by (with_reducible repeat (first | apply Kd.N_alloc | apply Kd.N_drewN | apply Kd.N_drew)); exact HO109.out) (Kd.N_base ho83) hb); have n1_ := Aside0.mk (Kd.R_below (by (with_reducible repeat (first | apply Kd.R_alloc | apply Kd.R_drewN | apply Kd.R_drew)); exact HO113.out) hb); have n2_ := Aside0.mk (Kd.N_lower (Kd.N_mono (ok' := fun k_ => some k_ ≠ (.slice Ao80 y107.length co80 : Value).ownBlock ∧ some k_ ≠ (v112 : Value).ownBlock) ho83 (fun k_ hk_ => ⟨(Kd.fresh' (Kd.N_lt (by (with_reducible repeat (first | apply Kd.N_alloc | apply Kd.N_drewN | apply Kd.N_drew)); exact HO109.out)) k_ hk_), (Kd.fresh' (Kd.R_lt (by (with_reducible repeat (first | apply Kd.R_alloc | apply Kd.R_drewN | apply Kd.R_drew)); exact HO113.out)) k_ hk_)⟩)) (below_size (by repeat (first | (with_reducible first | exact HB.out | apply below_alloc | apply pw_below_drewN | apply below_drew1) | exact HB.out)))); have n3_ := Aside0.mk (below_step (by repeat (first | (with_reducible first | exact HB.out | apply below_alloc | apply pw_below_drewN | apply below_drew1) | exact HB.out)) hb); clear HO109; clear HO113; clear HB; have HO109 := n0_; have HO113 := n1_; have HO116 := n2_; have HB := n3_; clear n0_ n1_ n2_ n3_; clear hb ho83; obtain ⟨Ao84, co84, eo84⟩ := Kd.N_slice HO116.out; subst eo84) | ((with_reducible refine gate_callee (f := 17) rfl ?_); refine goesL_ (some 14) rfl rfl Try.func17 (by kernel_rfl) rfl #[.slice Ao84 y114.length co84] rfl (by (try simp only [List.map_toArray, List.map_cons, List.map_nil]); first | done | rfl | (simp only [List.length_drop, List.length_take]; rfl)) ?_; (with_reducible refine (gap_Coalesce.calls _ _ y114 t117 t118 _ ?side1 ?side2 A3.out).mono ?_); (case side1 => repeat (first | exact (Kd.N_reads' HO116.out).2.2 | (with_reducible refine Kd.C_alloc ?_ _) | (with_reducible refine Kd.C_drewN ?_ _) | (with_reducible refine Kd.C_drew ?_))); (case side2 => exact (Kd.N_reads' HO116.out).2.1); rintro e w85 ⟨v119, rfl, ho0, hb⟩; refine ⟨_, rfl, ?_⟩; have n0_ := Aside0.mk (Kd.N_elder' (by (with_reducible repeat (first | apply Kd.N_alloc | apply Kd.N_drewN | apply Kd.N_drew)); exact HO109.out) (Kd.R_base ho0) hb); have n1_ := Aside0.mk (Kd.R_elder' (by (with_reducible repeat (first | apply Kd.R_alloc | apply Kd.R_drewN | apply Kd.R_drew)); exact HO113.out) (Kd.R_base ho0) hb); have n2_ := Aside0.mk (Kd.N_elder' (by (with_reducible repeat (first | apply Kd.N_alloc | apply Kd.N_drewN | apply Kd.N_drew)); exact HO116.out) (Kd.R_base ho0) hb); have n3_ := Aside0.mk (Kd.R_lower (Kd.R_new' ho0 (Kd.R_lt (by (with_reducible repeat (first | apply Kd.R_alloc | apply Kd.R_drewN | apply Kd.R_drew)); exact HO113.out))) (below_size (by repeat (first | (with_reducible first | exact HB.out | apply below_alloc | apply pw_below_drewN | apply below_drew1) | exact HB.out)))); have n4_ := Aside0.mk (below_step (by repeat (first | (with_reducible first | exact HB.out | apply below_alloc | apply pw_below_drewN | apply below_drew1) | exact HB.out)) hb); clear HO109; clear HO113; clear HO116; clear HB; have HO109 := n0_; have HO113 := n1_; have HO116 := n2_; have HO120 := n3_; have HB := n4_; clear n0_ n1_ n2_ n3_ n4_; (try clear hb); (try clear hb2); (try clear hk); (try clear hi); (try clear ho0)))
        go_ret
        exact ⟨by first | rfl | (simp [errW_none, errW_some] <;> rfl) | (simp [*, errW_none, errW_some] <;> rfl), by repeat (first | (with_reducible first | exact HB.out | apply below_alloc | apply pw_below_drewN | apply below_drew1) | exact HB.out)⟩
    · rw [if_neg c4] at H
      have c4b0 : (t111 == 0) = false := beq_eq_false_iff_ne.mpr c4
      have c4b1 : (t111 != 0) = true := bne_iff_ne.mpr c4
      obtain rfl := Option.some.inj H
      go_enter Try.func15, Try.ntmps15
      go_wp2_with (first | ((with_reducible refine gate_dst (N := 6) rfl ?_); (try (refine gate_guard (by rfl) ?_; dsimp only)); refine Kd.R_lit Kd.string _ 9 ?hg (N := 6) ?hd (xs := ([(⟨#[97]⟩ : ByteArray), (⟨#[98]⟩ : ByteArray)] : List ByteArray)) (inner := [.string (⟨#[97]⟩ : ByteArray), .string (⟨#[98]⟩ : ByteArray)]) (ok := fun _ => True) (okp := fun _ => True) ?hr ?hp (fun _ hk => hk) trivial (Below.refl _ _) (Nat.le_refl _) (by simp) ?_; (case hd => rfl); (case hg => rfl); (case hr => first | (go_simp; done) | (go_simp; rfl)); (case hp => exact (Reps.one (show Kd.M Kd.string _ _ _ (⟨#[97]⟩ : ByteArray) [.string (⟨#[97]⟩ : ByteArray)] from rfl) (Reps.one (show Kd.M Kd.string _ _ _ (⟨#[98]⟩ : ByteArray) [.string (⟨#[98]⟩ : ByteArray)] from rfl) (Reps.none _ _)))); intro v102 w86 ho87 hb hg_ hnew_; clear hg_ hnew_; (first | rw [← Ny101.out] at ho87 | (simp only [Int.reduceToNat] at ho87; rw [← Ny101.out] at ho87)); have n0_ := Aside0.mk (Kd.R_lower ho87 (below_size (by repeat (first | (with_reducible first | exact HB.out | apply below_alloc | apply pw_below_drewN | apply below_drew1) | exact HB.out)))); have n1_ := Aside0.mk (below_step (by repeat (first | (with_reducible first | exact HB.out | apply below_alloc | apply pw_below_drewN | apply below_drew1) | exact HB.out)) hb); clear HB; have HO103 := n0_; have HB := n1_; clear n0_ n1_; clear hb ho87) | ((with_reducible refine gate_dst (N := 7) rfl ?_); (try (refine gate_guard (by rfl) ?_; dsimp only)); refine Kd.R_lit Kd.string _ 9 ?hg (N := 7) ?hd (xs := ([(⟨#[98]⟩ : ByteArray), (⟨#[99]⟩ : ByteArray)] : List ByteArray)) (inner := [.string (⟨#[98]⟩ : ByteArray), .string (⟨#[99]⟩ : ByteArray)]) (ok := fun _ => True) (okp := fun _ => True) ?hr ?hp (fun _ hk => hk) trivial (Below.refl _ _) (Nat.le_refl _) (by simp) ?_; (case hd => rfl); (case hg => rfl); (case hr => first | (go_simp; done) | (go_simp; rfl)); (case hp => exact (Reps.one (show Kd.M Kd.string _ _ _ (⟨#[98]⟩ : ByteArray) [.string (⟨#[98]⟩ : ByteArray)] from rfl) (Reps.one (show Kd.M Kd.string _ _ _ (⟨#[99]⟩ : ByteArray) [.string (⟨#[99]⟩ : ByteArray)] from rfl) (Reps.none _ _)))); intro v105 w88 ho89 hb hg_ hnew_; clear hg_ hnew_; (first | rw [← Ny104.out] at ho89 | (simp only [Int.reduceToNat] at ho89; rw [← Ny104.out] at ho89)); have n0_ := Aside0.mk (Kd.R_elder' (by (with_reducible repeat (first | apply Kd.R_alloc | apply Kd.R_drewN | apply Kd.R_drew)); exact HO103.out) (Kd.R_base ho89) hb); have n1_ := Aside0.mk (Kd.R_lower (Kd.R_new' ho89 (Kd.R_lt (by (with_reducible repeat (first | apply Kd.R_alloc | apply Kd.R_drewN | apply Kd.R_drew)); exact HO103.out))) (below_size (by repeat (first | (with_reducible first | exact HB.out | apply below_alloc | apply pw_below_drewN | apply below_drew1) | exact HB.out)))); have n2_ := Aside0.mk (below_step (by repeat (first | (with_reducible first | exact HB.out | apply below_alloc | apply pw_below_drewN | apply below_drew1) | exact HB.out)) hb); clear HO103; clear HB; have HO103 := n0_; have HO106 := n1_; have HB := n2_; clear n0_ n1_ n2_; clear hb ho89; obtain ⟨Ao90, co90, eo90⟩ := Kd.R_slice HO103.out; subst eo90; obtain ⟨Ao91, co91, eo91⟩ := Kd.R_slice HO106.out; subst eo91) | ((with_reducible refine gate_dst (N := 8) rfl ?_); (try (refine gate_guard (by rfl) ?_; dsimp only)); refine Kd.N_lit (Kd.slice 9 Kd.string) _ 34 ?hg (N' := 8) ?hd (xs := ([y101, y104] : List (List ByteArray))) (inner := [.slice Ao90 y101.length co90, .slice Ao91 y104.length co91]) (ok := (fun _ => True)) (okp := (fun _ => True)) ?hr ?hp (fun _ hk => hk) ((show ∀ k_, w88.heap.size ≤ k_ → (fun _ => True) k_ from fun k_ hk => trivial) _ (Nat.le_refl _)) (Below.refl _ _) (Nat.le_refl _) (by simp) ?_; (case hd => rfl); (case hg => rfl); (case hr => first | (go_simp; done) | (go_simp; rfl)); (case hp => exact (Reps.one (show Kd.FK (Kd.slice 9 Kd.string) _ _ y101 [.slice Ao90 y101.length co90] from (Kd.FK_slice_mk (Kd.R_reads' (Kd.R_mono (ok' := (fun _ => True)) (HO103.out) (fun k_ hk => trivial))).2.1 (Kd.R_F (Kd.R_mono (ok' := (fun _ => True)) (HO103.out) (fun k_ hk => trivial))))) (Reps.one (show Kd.FK (Kd.slice 9 Kd.string) _ _ y104 [.slice Ao91 y104.length co91] from (Kd.FK_slice_mk (Kd.R_reads' (Kd.R_mono (ok' := (fun _ => True)) (HO106.out) (fun k_ hk => trivial))).2.1 (Kd.R_F (Kd.R_mono (ok' := (fun _ => True)) (HO106.out) (fun k_ hk => trivial))))) (Reps.none _ _)))); intro v108 w92 ho93 hb hg_ hnew_; clear hg_ hnew_; (first | rw [← Ny107.out] at ho93 | (simp only [Int.reduceToNat] at ho93; rw [← Ny107.out] at ho93)); have n0_ := Aside0.mk (Kd.N_lower ho93 (below_size (by repeat (first | (with_reducible first | exact HB.out | apply below_alloc | apply pw_below_drewN | apply below_drew1) | exact HB.out)))); have n1_ := Aside0.mk (below_step (by repeat (first | (with_reducible first | exact HB.out | apply below_alloc | apply pw_below_drewN | apply below_drew1) | exact HB.out)) hb); clear HB; clear HO103; clear HO106; have HO109 := n0_; have HB := n1_; clear n0_ n1_; clear hb ho93; obtain ⟨Ao94, co94, eo94⟩ := Kd.N_slice HO109.out; subst eo94) | ((with_reducible refine gate_callee (f := 17) rfl ?_); refine goesL_ (some 9) rfl rfl Try.func17 (by kernel_rfl) rfl #[.slice Ao94 y107.length co94] rfl (by (try simp only [List.map_toArray, List.map_cons, List.map_nil]); first | done | rfl | (simp only [List.length_drop, List.length_take]; rfl)) ?_; (with_reducible refine (gap_Coalesce.calls _ _ y107 t110 t111 _ ?side1 ?side2 A1.out).mono ?_); (case side1 => repeat (first | exact (Kd.N_reads' HO109.out).2.2 | (with_reducible refine Kd.C_alloc ?_ _) | (with_reducible refine Kd.C_drewN ?_ _) | (with_reducible refine Kd.C_drew ?_))); (case side2 => exact (Kd.N_reads' HO109.out).2.1); rintro e w95 ⟨v112, rfl, ho0, hb⟩; refine ⟨_, rfl, ?_⟩; have n0_ := Aside0.mk (Kd.N_elder' (by (with_reducible repeat (first | apply Kd.N_alloc | apply Kd.N_drewN | apply Kd.N_drew)); exact HO109.out) (Kd.R_base ho0) hb); have n1_ := Aside0.mk (Kd.R_lower ho0 (below_size (by repeat (first | (with_reducible first | exact HB.out | apply below_alloc | apply pw_below_drewN | apply below_drew1) | exact HB.out)))); have n2_ := Aside0.mk (below_step (by repeat (first | (with_reducible first | exact HB.out | apply below_alloc | apply pw_below_drewN | apply below_drew1) | exact HB.out)) hb); clear HO109; clear HB; have HO109 := n0_; have HO113 := n1_; have HB := n2_; clear n0_ n1_ n2_; (try clear hb); (try clear hb2); (try clear hk); (try clear hi); (try clear ho0)) | ((with_reducible refine gate_dst (N := 13) rfl ?_); (try (refine gate_guard (by rfl) ?_; dsimp only)); refine Kd.N_make (Kd.slice 9 Kd.string) _ 34 rfl (N' := 13) rfl 22 _ _ rfl 17 rfl rfl Try.underlying22 (.slice none 0 0) 24 info34 rfl (by decide) (by omega) [] (ok := fun k_ => w95.heap.size ≤ k_) (okp := fun _ => False) (Kd.FK_slice_mk (Nat.le_refl _) (Kd.F_nil _ _ _)) (fun _ hk => hk.elim) (Nat.le_refl _) (by omega) (by omega) (Below.refl _ _) (Nat.le_refl _) ?_; intro v115 w96 ho97 hb hg_ hnew_; clear hg_ hnew_; (first | rw [← Ny114.out] at ho97 | (simp only [Int.reduceToNat] at ho97; rw [← Ny114.out] at ho97)); have n0_ := Aside0.mk (Kd.N_elder' (by (with_reducible repeat (first | apply Kd.N_alloc | apply Kd.N_drewN | apply Kd.N_drew)); exact HO109.out) (Kd.N_base ho97) hb); have n1_ := Aside0.mk (Kd.R_below (by (with_reducible repeat (first | apply Kd.R_alloc | apply Kd.R_drewN | apply Kd.R_drew)); exact HO113.out) hb); have n2_ := Aside0.mk (Kd.N_lower (Kd.N_mono (ok' := fun k_ => some k_ ≠ (.slice Ao94 y107.length co94 : Value).ownBlock ∧ some k_ ≠ (v112 : Value).ownBlock) ho97 (fun k_ hk_ => ⟨(Kd.fresh' (Kd.N_lt (by (with_reducible repeat (first | apply Kd.N_alloc | apply Kd.N_drewN | apply Kd.N_drew)); exact HO109.out)) k_ hk_), (Kd.fresh' (Kd.R_lt (by (with_reducible repeat (first | apply Kd.R_alloc | apply Kd.R_drewN | apply Kd.R_drew)); exact HO113.out)) k_ hk_)⟩)) (below_size (by repeat (first | (with_reducible first | exact HB.out | apply below_alloc | apply pw_below_drewN | apply below_drew1) | exact HB.out)))); have n3_ := Aside0.mk (below_step (by repeat (first | (with_reducible first | exact HB.out | apply below_alloc | apply pw_below_drewN | apply below_drew1) | exact HB.out)) hb); clear HO109; clear HO113; clear HB; have HO109 := n0_; have HO113 := n1_; have HO116 := n2_; have HB := n3_; clear n0_ n1_ n2_ n3_; clear hb ho97; obtain ⟨Ao98, co98, eo98⟩ := Kd.N_slice HO116.out; subst eo98) | ((with_reducible refine gate_callee (f := 17) rfl ?_); refine goesL_ (some 14) rfl rfl Try.func17 (by kernel_rfl) rfl #[.slice Ao98 y114.length co98] rfl (by (try simp only [List.map_toArray, List.map_cons, List.map_nil]); first | done | rfl | (simp only [List.length_drop, List.length_take]; rfl)) ?_; (with_reducible refine (gap_Coalesce.calls _ _ y114 t117 t118 _ ?side1 ?side2 A3.out).mono ?_); (case side1 => repeat (first | exact (Kd.N_reads' HO116.out).2.2 | (with_reducible refine Kd.C_alloc ?_ _) | (with_reducible refine Kd.C_drewN ?_ _) | (with_reducible refine Kd.C_drew ?_))); (case side2 => exact (Kd.N_reads' HO116.out).2.1); rintro e w99 ⟨v119, rfl, ho0, hb⟩; refine ⟨_, rfl, ?_⟩; have n0_ := Aside0.mk (Kd.N_elder' (by (with_reducible repeat (first | apply Kd.N_alloc | apply Kd.N_drewN | apply Kd.N_drew)); exact HO109.out) (Kd.R_base ho0) hb); have n1_ := Aside0.mk (Kd.R_elder' (by (with_reducible repeat (first | apply Kd.R_alloc | apply Kd.R_drewN | apply Kd.R_drew)); exact HO113.out) (Kd.R_base ho0) hb); have n2_ := Aside0.mk (Kd.N_elder' (by (with_reducible repeat (first | apply Kd.N_alloc | apply Kd.N_drewN | apply Kd.N_drew)); exact HO116.out) (Kd.R_base ho0) hb); have n3_ := Aside0.mk (Kd.R_lower (Kd.R_new' ho0 (Kd.R_lt (by (with_reducible repeat (first | apply Kd.R_alloc | apply Kd.R_drewN | apply Kd.R_drew)); exact HO113.out))) (below_size (by repeat (first | (with_reducible first | exact HB.out | apply below_alloc | apply pw_below_drewN | apply below_drew1) | exact HB.out)))); have n4_ := Aside0.mk (below_step (by repeat (first | (with_reducible first | exact HB.out | apply below_alloc | apply pw_below_drewN | apply below_drew1) | exact HB.out)) hb); clear HO109; clear HO113; clear HO116; clear HB; have HO109 := n0_; have HO113 := n1_; have HO116 := n2_; have HO120 := n3_; have HB := n4_; clear n0_ n1_ n2_ n3_ n4_; (try clear hb); (try clear hb2); (try clear hk); (try clear hi); (try clear ho0)))
      go_ret
      exact ⟨by first | rfl | (simp [errW_none, errW_some] <;> rfl) | (simp [*, errW_none, errW_some] <;> rfl), by repeat (first | (with_reducible first | exact HB.out | apply below_alloc | apply pw_below_drewN | apply below_drew1) | exact HB.out)⟩
  · rw [if_neg c2] at H
    exact absurd H (by simp)

end Go.Proofs.Ytnlekganlliikaa.X
