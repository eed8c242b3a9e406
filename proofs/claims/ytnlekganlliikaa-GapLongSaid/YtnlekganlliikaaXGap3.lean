/-
  (*gap.rows).come: by hand.
-/
import Derived.Test.YtnlekganlliikaaXGapMath
import Derived.Test.YtnlekganlliikaaXIntern2
import Derived.Test.YtnlekganlliikaaXLcs7
namespace Go.Proofs.Ytnlekganlliikaa.X
open Go.RowKit Go.Proofs.YtnlekganlliikaaW.PrintWords Go.Proofs.YtnlekganlliikaaW.PrintLast Go.Proofs.YtnlekganlliikaaW.PrintMore
set_option linter.unusedVariables false
set_option linter.unusedSimpArgs false

theorem RowsIn.below {W W' : World} {B g : Nat} {rs : List RowG} {e : Int} (h : RowsIn W B g rs e) (hb : Below W.heap.size W W') : RowsIn W' B g rs e := by
  obtain ⟨v, h1, h2, h3⟩ := h
  exact ⟨v, keep_ h1 hb, h2, Kd.R_below h3 hb⟩
theorem lcs_New_pair (A0 : Option Addr) (c0 : Nat) (l0 : List Int) (A1 : Option Addr) (c1 : Nat) (l1 : List Int) (w : World) (hr0 : Kd.C (Kd.int .i64) w A0 l0.length l0) (hc0 : l0.length ≤ c0) (hr1 : Kd.C (Kd.int .i64) w A1 l1.length l1) (hc1 : l1.length ≤ c1) (h0 : l0.length ≤ 2000) (h1 : l1.length ≤ 2000) :
    Calls Try.prog 31 #[.slice A0 l0.length c0, .slice A1 l1.length c1] w fun e w' => ∃ (g : Nat) (d : Int), e = .returned (.tuple #[.pointer (some ⟨g, 0, none⟩), .int .i64 0]) ∧ Aside0 (w.heap.size ≤ g) ∧ Aside0 (PairIn w' g l0 l1 d) ∧ Aside0 (Below w.heap.size w w') := by
  refine (lcs_New_ok A0 c0 l0 A1 c1 l1 w hr0 hc0 hr1 hc1 h0 h1).mono ?_
  rintro e w' ⟨g, rfl, hp, hb⟩
  obtain ⟨d, hd⟩ := PairIn.of_new hp
  exact ⟨g, d, rfl, ⟨hp.1⟩, ⟨hd⟩, ⟨hb⟩⟩

theorem size_row' {x : RowG} (h : x.1.length = 16) : (Try.prog.info? 63).map (·.size) = some (rowCells x).length := size_row h
theorem w64k {x : Int} (h : -9223372036854775808 ≤ x) (h2 : x < 9223372036854775808) : wrap64 x = x := by
  unfold wrap64
  omega
def comeS (col : Nat) (list : List ByteArray) (rs : List RowG) (e : Int) : List RowG × Int := if rs.length ≤ 2000 ∧ list.length ≤ 2000 then (comeF col list rs, e) else (rs, 4)
section
variable {w0 W W' W2 W4 W5 : World} {B Ba Bl Bc Bo cl col at_ : Nat} {Al : Option Addr} {list : List ByteArray} {rs : List RowG} {v v4 : Value} {x : RowG}
theorem ComeI.below_ (h : ComeI w0 W B Ba Bl Bc Bo Al cl list col at_ rs v) (hb : Below W.heap.size W W') (hB : B ≤ W.heap.size) : ComeI w0 W' B Ba Bl Bc Bo Al cl list col at_ rs v := by
  obtain ⟨h1, h2, h3, ⟨h4, h5⟩, h6, h7, h8, h9⟩ := h
  exact ⟨keep_ h1 hb, keep_ h2 hb, keep_ h3 hb, ⟨keep_ h4 hb, Kd.R_below h5 hb⟩, h6.trans (hb.mono hB), h7, h8, h9⟩
theorem ComeI.set_blk (h : ComeI w0 W B Ba Bl Bc Bo Al cl list col at_ rs v) {bx j : Nat} {u : Value} (hw : Aside0 (W' = W.setCell ⟨bx, j, none⟩ u)) (ha : Ba ≠ bx) (hl : Bl ≠ bx) (hc : Bc ≠ bx) (ho : Bo ≠ bx) (hv : some bx ≠ v.ownBlock) (hB : B ≤ bx) : ComeI w0 W' B Ba Bl Bc Bo Al cl list col at_ rs v := by
  obtain ⟨h1, h2, h3, ⟨h4, h5⟩, h6, h7, h8, h9⟩ := h
  obtain rfl := hw.out
  exact ⟨set_keep h1 ha u, set_keep h2 hl u, set_keep h3 hc u, ⟨set_keep h4 ho u, Kd.R_mono (Kd.R_far (p := ⟨bx, j, none⟩) (Kd.R_tight rfl h5) (fun k hk e => hv (by rw [← hk]; exact congrArg some e.symm)) u) (fun _ _ => trivial)⟩, h6.setCell (p := ⟨bx, j, none⟩) hB _, h7, h8, h9⟩
theorem ComeI.set_at (h : ComeI w0 W B Ba Bl Bc Bo Al cl list col at_ rs v) {n : Nat} (hw : Aside0 (W' = W.setCell ⟨Ba, 0, none⟩ (.int .i64 (n : Int)))) : ComeI w0 W' B Ba Bl Bc Bo Al cl list col n rs v := by
  obtain ⟨h1, h2, h3, ⟨h4, h5⟩, h6, h7, h8, h9⟩ := h
  obtain rfl := hw.out
  exact ⟨by rw [heap_set_same h1]; rfl, set_keep h2 (blk_ne h2 h1 (by decide)) _, set_keep h3 h9.symm _, ⟨set_keep h4 (blk_ne h4 h1 (by decide)) _, Kd.R_set h5 h1 (by decide) _ _⟩, h6.setCell (p := ⟨Ba, 0, none⟩) h7 _, h7, h8, h9⟩
theorem ComeI.set_at1 (h : ComeI w0 W B Ba Bl Bc Bo Al cl list col at_ rs v) {n : Nat} (hw : Aside0 (W' = W.setCell ⟨Ba, 0, none⟩ (.int .i64 ((n : Int) + 1)))) : ComeI w0 W' B Ba Bl Bc Bo Al cl list col (n + 1) rs v := by
  have e : ((n + 1 : Nat) : Int) = (n : Int) + 1 := by omega
  exact h.set_at (n := n + 1) ⟨by rw [e]; exact hw.out⟩
theorem ComeI.put (h : ComeI w0 W B Ba Bl Bc Bo Al cl list col at_ rs v) (hg : W.grownBy W4 v.ownBlock) (hr : Kd.R kRow 63 W4 B (fun _ => True) v4 (rs ++ [x])) (hb : Below B w0 W4) (hw : Aside0 (W5 = W4.setCell ⟨Bo, 0, none⟩ v4)) :
    ComeI w0 W5 B Ba Bl Bc Bo Al cl list col at_ (rs ++ [x]) v4 := by
  obtain ⟨h1, h2, h3, ⟨h4, h5⟩, h6, h7, h8, h9⟩ := h
  obtain rfl := hw.out
  have k1 := (hg.block _ (blk_lt h1) (Kd.R_ne h5 h1 (by decide))).trans h1
  have k2 := (hg.block _ (blk_lt h2) (Kd.R_ne h5 h2 (by decide))).trans h2
  have k3 := (hg.block _ (blk_lt h3) (Kd.R_ne h5 h3 (by decide))).trans h3
  have k4 := (hg.block _ (blk_lt h4) (Kd.R_ne h5 h4 (by decide))).trans h4
  exact ⟨set_keep k1 (blk_ne h1 h4 (by decide)) _, set_keep k2 (blk_ne h2 h4 (by decide)) _, set_keep k3 (blk_ne h3 h4 (by decide)) _, ⟨by rw [heap_set_same k4]; rfl, Kd.R_set hr k4 (by decide) _ _⟩, hb.setCell (p := ⟨Bo, 0, none⟩) h8 _, h7, h8, h9⟩
theorem KeepsF.put (hg : W.grownBy W4 v.ownBlock) (hat : v4.ownBlock = v.ownBlock ∨ ∃ b, v4.ownBlock = some b ∧ W.heap.size ≤ b) {u : Value} (hw : Aside0 (W5 = W4.setCell ⟨Bo, 0, none⟩ u)) : KeepsF Ba Bo W W5 v v4 := by
  obtain rfl := hw.out
  exact ⟨by simpa [World.setCell] using hg.size, fun k hk _ h2 h3 => (heap_set_other h2 _).trans (hg.block k hk h3), hat⟩
theorem KeepsF.far (h : KeepsF Ba Bo W W' v v4) {bx j : Nat} {u : Value} (hw : Aside0 (W2 = W'.setCell ⟨bx, j, none⟩ u)) (hx : W.heap.size ≤ bx) : KeepsF Ba Bo W W2 v v4 := by
  obtain rfl := hw.out
  exact ⟨by simpa [World.setCell] using h.1, fun k hk h1 h2 h3 => (heap_set_other (by omega) _).trans (h.2.1 k hk h1 h2 h3), h.2.2⟩
theorem vf_ne {Wr : World} (hk : KeepsF Ba Bo W W' v v4) (hl : Below Wr.heap.size Wr W) (hv : ∀ k, v.ownBlock = some k → k < Wr.heap.size) (hx : Wr.heap.size < W.heap.size) : some Wr.heap.size ≠ v4.ownBlock := by
  intro e
  rcases hk.2.2 with h | ⟨b, h, h2⟩
  · have := hv _ (h.symm.trans e.symm); omega
  · rw [h] at e; injection e with e; omega
theorem set_at_keep {b g : Nat} {u : Value} {o : Obj} (hw : Aside0 (W' = W.setCell ⟨g, 0, none⟩ u)) (h : W.heap[b]? = some o) (hne : b ≠ g) : W'.heap[b]? = some o := by
  obtain rfl := hw.out
  exact set_keep h hne _
theorem KeepsF.set_blk {bx j : Nat} {u : Value} (hw : Aside0 (W' = W.setCell ⟨bx, j, none⟩ u)) (hx : bx = Ba ∨ bx = Bo) : KeepsF Ba Bo W W' v v := by
  obtain rfl := hw.out
  exact ⟨by simp [World.setCell], fun k hk h1 h2 _ => heap_set_other (by rintro rfl; rcases hx with h | h; exact h1 h; exact h2 h) _, .inl rfl⟩
end

theorem all_two (A0 A1 : Option Addr) (c0 c1 n0 g : Nat) (l0 l1 : List ByteArray) (r : List (List Int)) (w : World) (hg : g = w.heap.size) (hn : n0 = l0.length) (hr0 : Kd.C Kd.string w A0 l0.length l0) (hc0 : l0.length ≤ c0) (hr1 : Kd.C Kd.string w A1 l1.length l1) (hc1 : l1.length ≤ c1) (h : intern_All.f [l0, l1] = some r) :
    Calls Try.prog 30 #[.slice (some ⟨g, 0, none⟩) 2 2] (w.alloc (.cells #[.slice A0 n0 c0, .slice A1 l1.length c1] 34)) fun e w' => ∃ v, e = .returned v ∧ Aside0 (Kd.S KI 49 w' w.heap.size (fun _ => True) v r) ∧ Aside0 (Below w.heap.size w w') := by
  subst hg hn
  have hbl := Below.alloc (Below.refl w.heap.size w) (Nat.le_refl _) (.cells #[.slice A0 l0.length c0, .slice A1 l1.length c1] 34)
  have hblk := blk_new w (.cells #[.slice A0 l0.length c0, .slice A1 l1.length c1] 34)
  have h0 : (Kd.slice 9 Kd.string).K (w.alloc (.cells #[.slice A0 l0.length c0, .slice A1 l1.length c1] 34)) l0 [.slice A0 l0.length c0] := ⟨A0, c0, rfl, hc0, Kd.C_below hr0 hbl⟩
  have h1 : (Kd.slice 9 Kd.string).K (w.alloc (.cells #[.slice A0 l0.length c0, .slice A1 l1.length c1] 34)) l1 [.slice A1 l1.length c1] := ⟨A1, c1, rfl, hc1, Kd.C_below hr1 hbl⟩
  have hC := C_blk (d := Kd.slice 9 Kd.string) (xs := [l0, l1]) (inner := [.slice A0 l0.length c0, .slice A1 l1.length c1]) hblk (Reps.one h0 (Reps.one h1 (Reps.none _ _))) (by simp)
  refine (intern_All.calls _ 2 [l0, l1] r _ hC (by simp) h).mono ?_
  rintro e w' ⟨v, rfl, hs, hb⟩
  exact ⟨v, rfl, ⟨Kd.S_lower hs (by simp)⟩, ⟨hbl.trans (hb.mono (by simp))⟩⟩
theorem S_two {W : World} {B : Nat} {v : Value} {a b : List Int} (h : Kd.S KI 49 W B (fun _ => True) v [a, b]) :
    ∃ gi ci A0 c0 A1 c1, v = .slice (some ⟨gi, 0, none⟩) 2 ci ∧ W.cell? ⟨gi, 0, none⟩ = some (.slice A0 a.length c0) ∧ W.cell? ⟨gi, 1, none⟩ = some (.slice A1 b.length c1) ∧ Kd.C (Kd.int .i64) W A0 a.length a ∧ a.length ≤ c0 ∧ Kd.C (Kd.int .i64) W A1 b.length b ∧ b.length ≤ c1 := by
  obtain ⟨gi, ci, rfl, _⟩ := Kd.S_form h (by simp)
  have hC := (Kd.S_reads' h).2.2
  obtain ⟨ad, A0, c0, e0, h0, l0, k0⟩ := at_slice hC 0 (by simp)
  cases e0
  obtain ⟨ad, A1, c1, e1, h1, l1, k1⟩ := at_slice hC 1 (by simp)
  cases e1
  rw [add0_] at h0 h1
  exact ⟨gi, ci, A0, c0, A1, c1, rfl, h0, h1, k0, l0, k1, l1⟩

set_option maxRecDepth 100000 in
set_option maxHeartbeats 8000000 in
theorem rows_come (g B col : Nat) (rs : List RowG) (e : Int) (Al : Option Addr) (cl : Nat) (list : List ByteArray) (w : World) (h : RowsIn w B g rs e) (hC : Kd.C Kd.string w Al list.length list) (hcl : list.length ≤ cl) (hcol : col < 16)
    (hn : rs.length ≤ 100000) (hl : list.length ≤ 100000) (hz : ∀ x ∈ rs, x.2.size ≤ maxLen) (hz2 : ∀ s ∈ list, s.size ≤ maxLen) (hB : B ≤ w.heap.size) :
    Calls Try.prog 39 #[.pointer (some ⟨g, 0, none⟩), .int .i64 (col : Int), .slice Al list.length cl] w fun e' w' => e' = .returned (.tuple #[]) ∧
      Aside0 (RowsIn w' B g (comeS col list rs e).1 (comeS col list rs e).2) ∧ Aside0 (Below B w w') := by
  have H := Aside0.mk h
  have HC := Aside0.mk hC
  have HZ : Aside0 (∀ l ∈ [rs.map (·.2), list], ∀ s ∈ l, s.size ≤ maxLen) := ⟨by
    intro l hl s hs
    simp only [List.mem_cons, List.not_mem_nil, or_false] at hl
    rcases hl with rfl | rfl
    · obtain ⟨x, hx, rfl⟩ := List.mem_map.1 hs
      exact hz x hx
    · exact hz2 s hs⟩
  have hT : total [rs.map (·.2), list] = rs.length + list.length := by simp [total]
  have hids : intern_All.f [rs.map (·.2), list] = some (idsOf2 rs list) := by
    rw [intern_All.f, if_pos ⟨by simp, by omega, HZ.out⟩]; rfl
  have HIDS := Aside0.mk hids
  have hcl' := Aside0.mk hcl
  clear h hC hz hz2 hT hids hcl
  go_enter Try.func39, Try.ntmps39
  go_wp2_with fail
  obtain ⟨W1, hW1⟩ : ∃ W1, (w.alloc (.cells #[.int .i64 (col : Int)] 3)).alloc (.cells #[.slice Al list.length cl] 34) = W1 := ⟨_, rfl⟩
  have hb1 : Below w.heap.size w W1 := by rw [← hW1]; exact ((Below.refl _ w).alloc (Nat.le_refl _) _).alloc (by simp) _
  have hBl : W1.heap[w.heap.size + 1]? = some (.cells #[.slice Al list.length cl] 34 (0, 0)) := by
    rw [← hW1]; have := blk_new (w.alloc (.cells #[.int .i64 (col : Int)] 3)) (.cells #[.slice Al list.length cl] 34); simpa using this
  have hBc : W1.heap[w.heap.size]? = some (.cells #[.int .i64 (col : Int)] 3 (0, 0)) := by
    rw [← hW1, heap_alloc_old _ _ (by simp)]; exact blk_new _ _
  have hs1 : W1.heap.size = w.heap.size + 2 := by rw [← hW1]; simp
  rw [hW1]
  have HB1 := Aside0.mk hb1
  have HBL := Aside0.mk hBl
  have HBC := Aside0.mk hBc
  have HS1 := Aside0.mk hs1
  have cbl : W1.cell? ⟨w.heap.size + 1, 0, none⟩ = some (.slice Al list.length cl) := cell_blk hBl rfl
  clear hW1 hb1 hBl hBc hs1
  refine start_ (n := 6) (S := fun w' => w'.cell? ⟨w.heap.size + 1, 0, none⟩ = some (.slice Al list.length cl)) (ds := []) #[false, false, false, false, false, false] (by kernel_rfl) rfl rfl (cbl) (fun hHeld => ?_)
  refine pure_ (i := 0) (N := some 15) (v := ?_) (a' := ?_) #[true, false, false, false, false, false] rfl rfl (by kernel_rfl) (fun _ _ _ h => h) (Or.inl ⟨by rfl, ?_⟩) ?_ ?_
  rotate_left
  · intro w'
    go_simp
    with_reducible rfl
  rotate_left
  · simp only [Act.put, List.setIfInBounds_toArray, List.set_cons_zero, List.set_cons_succ, i64_w, i32_w]
    rfl
  refine take_ (i := 2) (N := some 17) (v := ?_) (a' := ?_) #[true, false, true, false, false, false] rfl rfl (by kernel_rfl) (fun _ _ _ h => h) (Or.inl ⟨by rfl, ?_⟩) hHeld ?_ ?_
  rotate_left
  · intro w' s0
    go_simp
    with_reducible rfl
  rotate_left
  · simp only [Act.put, List.setIfInBounds_toArray, List.set_cons_zero, List.set_cons_succ, i64_w, i32_w]
    rfl
  refine one_ (i := 1) (N := some 16) #[true, true, true, false, false, false] rfl rfl (by kernel_rfl) (by decide) (fun K hK => ?_)
  refine goes_ Try.func63 (by kernel_rfl) rfl #[.pointer (some ⟨g, 0, none⟩)] (by rfl) rfl rfl (by simp only [List.map_toArray, List.map_cons, List.map_nil]; rfl) ?_
  with_reducible refine (rows_texts g B rs e W1.drew ((H.out.below HB1.out).below (Below.refl _ _).drew) (by omega)).mono ?_
  rintro e w2 ⟨v2, rfl, HO2, HB2⟩
  refine ⟨_, rfl, ?_⟩
  obtain ⟨A2, c2, rfl⟩ := Kd.R_slice HO2.out
  have cb2 : w2.cell? ⟨w.heap.size + 1, 0, none⟩ = some (.slice Al list.length cl) := (HB2.out.cell (World.block_lt_of_cell? W1 _ cbl)).trans cbl
  have HW2 : Aside0 (Below W1.heap.size W1 w2) := ⟨(Below.refl _ W1).drew.trans HB2.out⟩
  refine hK.out _ _ (cb2) (fun hHeld => ?_)
  clear hK K
  refine norm_ (a' := ?_) ?_ ?_
  rotate_left
  · show Act.put _ (some 16) _ = _
    simp only [Act.put, List.setIfInBounds_toArray, List.set_cons_zero, List.set_cons_succ, i64_w, i32_w]
    rfl
  refine one_ (i := 3) (N := some 18) #[true, true, true, true, false, false] rfl rfl (by kernel_rfl) (by decide) (fun K hK => ?_)
  refine value_ (w1 := ?_) (v := ?_) (by rfl) rfl ?_ ?_
  rotate_left 2
  · go_simp
    constructor
    · rfl
    · rfl
  refine hK.out _ _ (cell_alloc_of cb2 _) (fun hHeld => ?_)
  clear hK K
  refine norm_ (a' := ?_) ?_ ?_
  rotate_left
  · show Act.put _ (some 18) _ = _
    simp only [Act.put, List.setIfInBounds_toArray, List.set_cons_zero, List.set_cons_succ, i64_w, i32_w]
    rfl
  refine one_ (i := 4) (N := some 19) #[true, true, true, true, true, false] rfl rfl (by kernel_rfl) (by decide) (fun K hK => ?_)
  refine goes_ Try.func30 (by kernel_rfl) rfl #[.slice (some ⟨w2.heap.size, 0, none⟩) 2 2] (by rfl) rfl rfl (by simp only [List.map_toArray, List.map_cons, List.map_nil]; rfl) ?_
  with_reducible refine (all_two A2 Al c2 cl rs.length w2.heap.size (rs.map (·.2)) list (idsOf2 rs list) w2 rfl (List.length_map ..).symm (Kd.R_reads' HO2.out).2.2 (Kd.R_reads' HO2.out).2.1 (Kd.C_below (Kd.C_below HC.out HB1.out) HW2.out) hcl'.out HIDS.out).mono ?_
  rintro e w3 ⟨v3, rfl, HS3, HB3⟩
  refine ⟨_, rfl, ?_⟩
  have HW3 : Aside0 (Below W1.heap.size W1 w3) := ⟨far_ HW2.out HB3.out⟩
  have cb3 : w3.cell? ⟨w.heap.size + 1, 0, none⟩ = some (.slice Al list.length cl) := (HB3.out.cell (World.block_lt_of_cell? w2 _ cb2)).trans cb2
  refine hK.out _ _ (cb3) (fun hHeld => ?_)
  clear hK K
  refine norm_ (a' := ?_) ?_ ?_
  rotate_left
  · show Act.put _ (some 19) _ = _
    simp only [Act.put, List.setIfInBounds_toArray, List.set_cons_zero, List.set_cons_succ, i64_w, i32_w]
    rfl
  refine pure_ (i := 5) (N := some 6) (v := ?_) (a' := ?_) #[true, true, true, true, true, true] rfl rfl (by kernel_rfl) (fun _ _ _ h => h) (Or.inl ⟨by rfl, ?_⟩) ?_ ?_
  rotate_left
  · intro w'
    go_simp
    with_reducible rfl
  rotate_left
  · simp only [Act.put, List.setIfInBounds_toArray, List.set_cons_zero, List.set_cons_succ, i64_w, i32_w]
    rfl
  refine done_ (by kernel_rfl) ?_

  clear cbl cb2 cb3
  have HR3 : Aside0 (RowsIn w3 B g rs e) := ⟨(H.out.below HB1.out).below HW3.out⟩
  rw [ids2_list] at HS3
  obtain ⟨hla, hlb⟩ := ids2_len rs list
  have HMG : Aside0 (matchG rs list = matchOf ((idsOf2 rs list).getD 0 []) ((idsOf2 rs list).getD 1 [])) := ⟨rfl⟩
  obtain ⟨a, ha⟩ : ∃ a, (idsOf2 rs list).getD 0 [] = a := ⟨_, rfl⟩
  obtain ⟨b, hb⟩ : ∃ b, (idsOf2 rs list).getD 1 [] = b := ⟨_, rfl⟩
  rw [ha, hb] at HS3 HMG
  rw [ha] at hla
  rw [hb] at hlb
  clear ha hb
  obtain ⟨gi, ci, A0, c0, A1, c1, rfl, x0, x1, k0, m0, k1, m1⟩ := S_two HS3.out
  have K0 := Aside0.mk k0
  have M0 := Aside0.mk m0
  have K1 := Aside0.mk k1
  have M1 := Aside0.mk m1
  have HLA := Aside0.mk hla
  have HLB := Aside0.mk hlb
  clear k0 m0 k1 m1 hla hlb HS3
  by_cases hok : rs.length ≤ 2000 ∧ list.length ≤ 2000
  · have HCS : Aside0 (comeS col list rs e = (comeF col list rs, e)) := ⟨if_pos hok⟩
    obtain ⟨hok1, hok2⟩ := hok
    have la : a.length ≤ 2000 := by rw [HLA.out]; exact hok1
    have lb : b.length ≤ 2000 := by rw [HLB.out]; exact hok2
    go_wp2
    refine start_ (n := 12) (S := fun w' => w'.cell? ⟨gi, 0, none⟩ = some (.slice A0 a.length c0) ∧ w'.cell? ⟨gi, 1, none⟩ = some (.slice A1 b.length c1)) (ds := []) #[false, false, false, false, false, false, false, false, false, false, false, false] (by kernel_rfl) rfl rfl ⟨x0, x1⟩ (fun hHeld => ?_)
    refine pure_ (i := 0) (N := some 21) (v := ?_) (a' := ?_) #[true, false, false, false, false, false, false, false, false, false, false, false] rfl rfl (by kernel_rfl) (fun _ _ _ h => h) (Or.inl ⟨by rfl, ?_⟩) ?_ ?_
    rotate_left
    · intro w'
      go_simp
      with_reducible rfl
    rotate_left
    · simp only [Act.put, List.setIfInBounds_toArray, List.set_cons_zero, List.set_cons_succ, i64_w, i32_w]
      rfl
    refine pure_ (i := 1) (N := some 22) (v := ?_) (a' := ?_) #[true, true, false, false, false, false, false, false, false, false, false, false] rfl rfl (by kernel_rfl) (fun _ _ _ h => h) (Or.inl ⟨by rfl, ?_⟩) ?_ ?_
    rotate_left
    · intro w'
      go_simp
      with_reducible rfl
    rotate_left
    · simp only [Act.put, List.setIfInBounds_toArray, List.set_cons_zero, List.set_cons_succ, i64_w, i32_w]
      rfl
    refine pure_ (i := 3) (N := some 24) (v := ?_) (a' := ?_) #[true, true, false, true, false, false, false, false, false, false, false, false] rfl rfl (by kernel_rfl) (fun _ _ _ h => h) (Or.inl ⟨by rfl, ?_⟩) ?_ ?_
    rotate_left
    · intro w'
      go_simp
      with_reducible rfl
    rotate_left
    · simp only [Act.put, List.setIfInBounds_toArray, List.set_cons_zero, List.set_cons_succ, i64_w, i32_w]
      rfl
    refine pure_ (i := 4) (N := some 25) (v := ?_) (a' := ?_) #[true, true, false, true, true, false, false, false, false, false, false, false] rfl rfl (by kernel_rfl) (fun _ _ _ h => h) (Or.inl ⟨by rfl, ?_⟩) ?_ ?_
    rotate_left
    · intro w'
      go_simp
      with_reducible rfl
    rotate_left
    · simp only [Act.put, List.setIfInBounds_toArray, List.set_cons_zero, List.set_cons_succ, i64_w, i32_w]
      rfl
    refine take_ (i := 2) (N := some 23) (v := ?_) (a' := ?_) #[true, true, true, true, true, false, false, false, false, false, false, false] rfl rfl (by kernel_rfl) (fun _ _ _ h => h) (Or.inl ⟨by rfl, ?_⟩) hHeld ?_ ?_
    rotate_left
    · rintro w' ⟨s0, s1⟩
      go_simp
      with_reducible rfl
    rotate_left
    · simp only [Act.put, List.setIfInBounds_toArray, List.set_cons_zero, List.set_cons_succ, i64_w, i32_w]
      rfl
    refine take_ (i := 5) (N := some 26) (v := ?_) (a' := ?_) #[true, true, true, true, true, true, false, false, false, false, false, false] rfl rfl (by kernel_rfl) (fun _ _ _ h => h) (Or.inl ⟨by rfl, ?_⟩) hHeld ?_ ?_
    rotate_left
    · rintro w' ⟨s0, s1⟩
      go_simp
      with_reducible rfl
    rotate_left
    · simp only [Act.put, List.setIfInBounds_toArray, List.set_cons_zero, List.set_cons_succ, i64_w, i32_w]
      rfl
    refine one_ (i := 6) (N := some 27) #[true, true, true, true, true, true, true, false, false, false, false, false] rfl rfl (by kernel_rfl) (by decide) (fun K hK => ?_)
    refine goes_ Try.func31 (by kernel_rfl) rfl #[.slice A0 a.length c0, .slice A1 b.length c1] (by rfl) rfl rfl (by simp only [List.map_toArray, List.map_cons, List.map_nil]; rfl) ?_
    with_reducible refine (lcs_New_pair A0 c0 a A1 c1 b w3.drew (Kd.C_drew K0.out) M0.out (Kd.C_drew K1.out) M1.out la lb).mono ?_
    rintro e4 w4 ⟨gp, d, rfl, HGP, HPI, HB4⟩
    refine ⟨_, rfl, ?_⟩
    have HW4 : Aside0 (Below w3.heap.size w3 w4) := ⟨(Below.refl _ w3).drew.trans HB4.out⟩
    have y0 : w4.cell? ⟨gi, 0, none⟩ = some (.slice A0 a.length c0) := (HW4.out.cell (World.block_lt_of_cell? w3 _ x0)).trans x0
    have y1 : w4.cell? ⟨gi, 1, none⟩ = some (.slice A1 b.length c1) := (HW4.out.cell (World.block_lt_of_cell? w3 _ x1)).trans x1
    refine hK.out _ _ ⟨y0, y1⟩ (fun hHeld => ?_)
    clear hK K
    refine norm_ (a' := ?_) ?_ ?_
    rotate_left
    · show Act.put _ (some 27) _ = _
      simp only [Act.put, List.setIfInBounds_toArray, List.set_cons_zero, List.set_cons_succ, i64_w, i32_w]
      rfl
    refine pure_ (i := 7) (N := some 20) (v := ?_) (a' := ?_) #[true, true, true, true, true, true, true, true, false, false, false, false] rfl rfl (by kernel_rfl) (fun _ _ _ h => h) (Or.inl ⟨by rfl, ?_⟩) ?_ ?_
    rotate_left
    · intro w'
      go_simp
      with_reducible rfl
    rotate_left
    · simp only [Act.put, List.setIfInBounds_toArray, List.set_cons_zero, List.set_cons_succ, i64_w, i32_w]
      rfl
    refine pure_ (i := 8) (N := some 28) (v := ?_) (a' := ?_) #[true, true, true, true, true, true, true, true, true, false, false, false] rfl rfl (by kernel_rfl) (fun _ _ _ h => h) (Or.inl ⟨by rfl, ?_⟩) ?_ ?_
    rotate_left
    · intro w'
      go_simp
      with_reducible rfl
    rotate_left
    · simp only [Act.put, List.setIfInBounds_toArray, List.set_cons_zero, List.set_cons_succ, i64_w, i32_w]
      rfl
    refine pure_ (i := 9) (N := some 29) (v := ?_) (a' := ?_) #[true, true, true, true, true, true, true, true, true, true, false, false] rfl rfl (by kernel_rfl) (fun _ _ _ h => h) (Or.inl ⟨by rfl, ?_⟩) ?_ ?_
    rotate_left
    · intro w'
      go_simp
      with_reducible rfl
    rotate_left
    · simp only [Act.put, List.setIfInBounds_toArray, List.set_cons_zero, List.set_cons_succ, i64_w, i32_w]
      rfl
    refine pure_ (i := 10) (N := some 7) (v := ?_) (a' := ?_) #[true, true, true, true, true, true, true, true, true, true, true, false] rfl rfl (by kernel_rfl) (fun _ _ _ h => h) (Or.inl ⟨by rfl, ?_⟩) ?_ ?_
    rotate_left
    · intro w'
      go_simp
      with_reducible rfl
    rotate_left
    · simp only [Act.put, List.setIfInBounds_toArray, List.set_cons_zero, List.set_cons_succ, i64_w, i32_w]
      rfl
    refine pure_ (i := 11) (N := some 8) (v := ?_) (a' := ?_) #[true, true, true, true, true, true, true, true, true, true, true, true] rfl rfl (by kernel_rfl) (fun _ _ _ h => h) (Or.inl ⟨by rfl, ?_⟩) ?_ ?_
    rotate_left
    · intro w'
      go_simp
      with_reducible rfl
    rotate_left
    · simp only [Act.put, List.setIfInBounds_toArray, List.set_cons_zero, List.set_cons_succ, i64_w, i32_w]
      rfl
    refine done_ (by kernel_rfl) ?_

    clear x0 x1 y0 y1
    have hmf : ∀ (fn : Fn) (first cap : Array Value) (w : World), (Instr.makeFunc fn first cap).run Try.prog w = .ok (.func fn first cap) w := fun _ _ _ _ => rfl
    go_wp2_with fail
    refine (pair_Match gp a b d _ ((HPI.out.below (below_alloc (Below.refl _ _) _)).below (below_alloc (Below.refl _ _) _))).mono ?_
    obtain ⟨w5, hw5⟩ : ∃ w5, (w4.alloc (.cells #[.slice none 0 0] 55)).alloc (.cells #[.int .i64 0] 3) = w5 := ⟨_, rfl⟩
    have hbl5 : Below w4.heap.size w4 w5 := by rw [← hw5]; exact ((Below.refl _ _).alloc (Nat.le_refl _) _).alloc (by simp) _
    have hs5 : w5.heap.size = w4.heap.size + 2 := by rw [← hw5]; simp
    have hBo : w5.heap[w4.heap.size]? = some (.cells #[.slice none 0 0] 55 (0, 0)) := by rw [← hw5, heap_alloc_old _ _ (by simp)]; exact blk_new _ _
    have hBa : w5.heap[w4.heap.size + 1]? = some (.cells #[.int .i64 0] 3 (0, 0)) := by rw [← hw5]; have := blk_new (w4.alloc (.cells #[.slice none 0 0] 55)) (.cells #[.int .i64 0] 3); simpa using this
    rw [hw5]
    clear hw5
    rintro e6 w6 ⟨vm, rfl, hm6, hp6, hg6⟩
    have hgp : gp < w4.heap.size := by obtain ⟨_, _, _, _, _, _, q1, _⟩ := HPI.out; exact blk_lt q1
    have hgpW : W1.heap.size ≤ gp := Nat.le_trans HW3.out.size HGP.out
    have hs41 : W1.heap.size ≤ w4.heap.size := Nat.le_trans HW3.out.size HW4.out.size
    have s1 := HS1.out
    have hC6 : ComeI w w6 w.heap.size (w4.heap.size + 1) (w.heap.size + 1) w.heap.size w4.heap.size Al cl list col 0 [] (.slice none 0 0) := by
      refine ⟨?_, ?_, ?_, ⟨?_, Kd.R_nil _ _ _ _ _⟩, ?_, by omega, by omega, by omega⟩
      · exact (hg6.block _ (blk_lt hBa) (fun e => by have := Option.some.inj e; omega)).trans hBa
      · exact (hg6.block _ (by omega) (fun e => by have := Option.some.inj e; omega)).trans (keep_ (keep_ (keep_ HBL.out HW3.out) HW4.out) hbl5)
      · exact (hg6.block _ (by omega) (fun e => by have := Option.some.inj e; omega)).trans (keep_ (keep_ (keep_ HBC.out HW3.out) HW4.out) hbl5)
      · exact (hg6.block _ (blk_lt hBo) (fun e => by have := Option.some.inj e; omega)).trans hBo
      · exact below_grown (far_ (far_ (far_ HB1.out HW3.out) HW4.out) hbl5) hg6 (by omega) (by omega)
    have hR6 : RowsIn w6 B g rs e := by
      obtain ⟨v, q1, q2, q3⟩ := H.out
      have hbw6 := hC6.2.2.2.2.1
      exact ⟨v, keep_ q1 hbw6, q2, Kd.R_below q3 hbw6⟩
    have HR6 := Aside0.mk hR6
    have HC6 := Aside0.mk hC6
    have HM6 := Aside0.mk hm6
    have hsz6 : w5.heap.size ≤ w6.heap.size := hg6.size
    have HS5 := Aside0.mk hs5
    clear hR6 hC6 hm6 hp6 hg6 hBo hBa hbl5 hs5 s1
    obtain ⟨Am, cm, rfl⟩ := Kd.R_slice HM6.out
    have hml : (matchOf a b).length = rs.length := by rw [← HMG.out]; exact matchG_len rs list
    have hup : Up list.length 0 (matchOf a b) := by rw [← HMG.out]; exact matchG_up rs list
    obtain ⟨m, hm⟩ : ∃ m, matchOf a b = m := ⟨_, rfl⟩
    rw [hm] at HM6 HMG hml hup ⊢
    clear hm
    have HUP := Aside0.mk hup
    have HML := Aside0.mk hml
    rw [hml] at HM6 ⊢
    clear hup hml
    go_wp2_with fail
    obtain ⟨w4b, hw4b⟩ : ∃ n, w4.heap.size = n := ⟨_, rfl⟩
    have HW4B := Aside0.mk hw4b
    rw [hw4b] at HC6 hgp hs41 ⊢
    have HS5' : Aside0 (w5.heap.size = w4b + 2) := ⟨by rw [HS5.out, hw4b]⟩
    clear hw4b HS5
    have HCF : Aside0 (comeF col list rs = comeGo col list m rs 0) := ⟨by rw [comeF, HMG.out]⟩
    have hsw6 : w.heap.size ≤ w6.heap.size := HC6.out.2.2.2.2.1.size
    go_loopw [40] (fun i wr => ∃ (k at_ : Nat) (o : List RowG) (v : Value), k ≤ rs.length ∧ at_ ≤ list.length ∧ i = .int .i64 k ∧ o.length ≤ k + at_ ∧ Aside0 (ComeI w wr w.heap.size (w4b + 1) (w.heap.size + 1) w.heap.size w4b Al cl list col at_ o v) ∧ Aside0 (KeepsF (w4b + 1) w4b w6 wr (.slice none 0 0) v) ∧ Aside0 (Up list.length at_ (m.drop k)) ∧ Aside0 (o ++ comeGo col list (m.drop k) (rs.drop k) at_ = comeF col list rs)) (fun i _ => rs.length - (intOf i).toNat)
    case atStart => exact ⟨0, 0, [], .slice none 0 0, Nat.zero_le _, Nat.zero_le _, rfl, by simp, HC6, ⟨KeepsF.refl _ _ _ _⟩, by simpa using HUP, ⟨by rw [HCF.out]; rfl⟩⟩
    case round =>
      obtain ⟨k, at_, o, v, hk, hatl, rfl, hol, HCr, HKr, HUr, HGr⟩ := hrel
      have hbw := HCr.out.2.2.2.2.1
      by_cases hlt : k < rs.length
      · obtain ⟨gm, cmm, hev, hgmB, hgmS, mcells, hgm⟩ := Kd.R_form HM6.out (by rw [HML.out]; omega)
        injection hev with e1 e2 e3
        subst e1; subst e3
        clear e2
        have hs5 := HS5'.out
        have hmc : wr.heap[gm]? = w6.heap[gm]? := HKr.out.2.1 gm hgmS (by omega) (by omega) (by simp [Value.ownBlock])
        obtain ⟨adm, em, hcm⟩ := at_num (Kd.R_reads' HM6.out).2.2 k (by rw [HML.out]; exact hlt)
        cases em
        rw [add0_] at hcm
        replace hcm : wr.cell? ⟨gm, k, none⟩ = some (.int .i64 (m.getD k 0)) := by rw [← hcm]; simp only [World.cell?, hmc]
        have hmd : m.drop k = m.getD k 0 :: m.drop (k + 1) := by rw [List.drop_eq_getElem_cons (by rw [HML.out]; exact hlt), getD_get (by rw [HML.out]; exact hlt)]
        have hrd : rs.drop k = rs.getD k ([], ByteArray.empty) :: rs.drop (k + 1) := by rw [List.drop_eq_getElem_cons hlt, getD_get hlt]
        rw [hmd] at HUr
        rw [hmd, hrd] at HGr
        clear hmd hrd hmc hgm
        obtain ⟨vg, q1, q2, q3⟩ := H.out
        obtain ⟨gb, cg, rfl, hcg, hCk⟩ := kRow_form q3 (by omega)
        have cgc : wr.cell? ⟨g, 0, none⟩ = some (.slice (some ⟨gb, 0, none⟩) rs.length cg) := cell_blk (keep_ q1 hbw) rfl
        obtain ⟨h16, hrg⟩ := at_row hCk k hlt
        replace hrg := range_below hrg hbw
        obtain ⟨x, hx⟩ : ∃ x, rs.getD k ([], ByteArray.empty) = x := ⟨_, rfl⟩
        rw [hx] at h16 hrg HGr
        obtain ⟨mk, hmk⟩ : ∃ mk, m.getD k 0 = mk := ⟨_, rfl⟩
        rw [hmk] at hcm HUr HGr
        have HX16 := Aside0.mk h16
        have HRG : Aside0 (wr.rangeAt gb (k * 17) (rowCells x)) := ⟨hrg⟩
        have hl17 := rowCells_len h16
        have hfold := fold_row h16
        have HBW : Aside0 (w.heap.size ≤ wr.heap.size) := ⟨hbw.size⟩
        have HQ : Aside0 (w4b + 2 ≤ wr.heap.size) := ⟨Nat.le_trans (by omega) HKr.out.1⟩
        obtain ⟨Ao, co, rfl⟩ := Kd.R_slice HCr.out.2.2.2.1.2
        have HOL : Aside0 (o.length ≤ 200000) := ⟨by omega⟩
        clear q1 q2 q3 hCk hrg hx hmk h16 hbw hcg hs5
        rcases HUr.out with ⟨rfl, hu⟩ | ⟨q, rfl, hq1, hq2, hu⟩
        · have HU := Aside0.mk hu
          clear hu HUr
          go_wp2_with (first
        | ((with_reducible refine gate_dst (N := 51) rfl ?_); refine wpList_load_mid rfl 63 _ rfl gb (k * 17) (by rfl) (rowCells x) _ HRG.out Try.underlying63 rfl (size_row' HX16.out) ?_)
        | ((with_reducible refine gate_store (t := 63) (p := 14) rfl ?_); refine wpList_store_row rfl 63 14 _ rfl rfl (b := wr.heap.size) rfl rfl (c' := (rowCells x).toArray) rfl (size_row HX16.out) (by rw [show (rowCells x).toArray.size = 17 from rowCells_len HX16.out]; rfl) rowCells_one ?_; intro w1 hb1 hl1 hz1; have hc1 := ComeI.below_ HCr.out hl1 HBW.out; have co1 : w1.cell? ⟨w4b, 0, none⟩ = some (.slice Ao o.length co) := cell_blk hc1.2.2.2.1.1 rfl; have HR1 : Aside0 (Kd.R kRow 63 w1 w.heap.size (fun _ => True) (.slice Ao o.length co) o) := ⟨hc1.2.2.2.1.2⟩; have HX1 := Aside0.mk hb1; have HL1 := Aside0.mk hl1; have HC1 := Aside0.mk hc1; clear hb1 hl1 hz1 hc1)
        | ((with_reducible refine gate_dst (N := 63) rfl ?_); refine wpList_load_row rfl 63 _ rfl wr.heap.size rfl 63 (rowCells x).toArray (0, 0) _ HX1.out Try.underlying63 rfl (size_row HX16.out) ?_)
        | (at_builtin; refine Kd.R_append kRow (w0 := w) w.heap.size rfl (.tmp 62) (.tmp 64) 55 63 (.agg (rowCells (noMarks, ByteArray.empty)).toArray) 32 rfl Try.underlying55 info_row rfl (by decide) (by decide) (.slice Ao o.length co) o x (rowCells x) (fun _ => True) (fun _ => False) rfl rfl (kRow_M HX16.out) (fun _ h => h.elim) (fun _ _ => trivial) HR1.out HC1.out.2.2.2.2.1 HC1.out.2.2.2.2.1.size (by have := HOL.out; omega) ?_; intro v4 w4 hr4 hb4 hg4 hat4; obtain ⟨A4, c4, hv4⟩ := Kd.R_slice hr4; subst hv4; have h4o := (hg4.block w4b (blk_lt HC1.out.2.2.2.1.1) (Kd.R_ne HR1.out HC1.out.2.2.2.1.1 (by decide))).trans HC1.out.2.2.2.1.1; have c4o := cell_blk (j := 0) h4o rfl; have f4o : w4.frozen? ⟨w4b, 0, none⟩ = false := frozen_of_row _ _ _ _ _ h4o; have HR4 := Aside0.mk hr4; have HB4x := Aside0.mk hb4; have HG4 := Aside0.mk hg4; have HAT := Aside0.mk hat4; clear hr4 hb4 hg4 hat4 h4o)
        | ((with_reducible refine gate_store (t := 55) (p := 9) rfl ?_); refine store_at (t := 55) (p := 9) (v := .tmp 65) (w1 := w4.setCell ⟨w4b, 0, none⟩ (.slice A4 (o ++ [x]).length c4)) ?hg ?ho ?hn ?hr ?_; (case ho => rfl); (case hg => rfl); (case hn => rfl); (case hr => first | (go_simp; done) | (go_simp; rfl)); intro w5 hw5; clear c4o f4o))
          go_roundw
          case measure => simp [intOf]; omega
          case rel => exact ⟨k + 1, at_, o ++ [x], _, by omega, hatl, by go_num, by simp; omega, ⟨HC1.out.put HG4.out HR4.out HB4x.out hw5⟩, ⟨HKr.out.trans ((KeepsF.below HL1.out).trans (KeepsF.put HG4.out HAT.out hw5))⟩, HU, ⟨by rw [← HGr.out, comeGo_no]; simp⟩⟩
        · have HU := Aside0.mk hu
          clear hu HUr
          have hvlt := Kd.R_lt HCr.out.2.2.2.1.2
          have HVLT := Aside0.mk hvlt
          clear hvlt
          go_wp2_with (first
        | ((with_reducible refine gate_dst (N := 51) rfl ?_); refine wpList_load_mid rfl 63 _ rfl gb (k * 17) (by rfl) (rowCells x) _ HRG.out Try.underlying63 rfl (size_row' HX16.out) ?_)
        | ((with_reducible refine gate_store (t := 63) (p := 14) rfl ?_); refine wpList_store_row rfl 63 14 _ rfl rfl (b := wr.heap.size) rfl rfl (c' := (rowCells x).toArray) rfl (size_row HX16.out) (by rw [show (rowCells x).toArray.size = 17 from rowCells_len HX16.out]; rfl) rowCells_one ?_; intro w1 hb1 hl1 hz1; have hc1 := ComeI.below_ HCr.out hl1 HBW.out;  have HX1 := Aside0.mk hb1; have HL1 := Aside0.mk hl1; have HC1 := Aside0.mk hc1; clear hb1 hl1 hz1 hc1))
          refine (fresh_calls w w1 w.heap.size (w4b + 1) (w.heap.size + 1) w.heap.size w4b Al cl list col at_ q o _ HC.out rfl HC1.out hcol (by omega) hq1 hl (by have := HOL.out; omega)).mono ?_
          rintro e7 wf ⟨vf, rfl, HCf, HBf, HKf⟩
          obtain ⟨of, hof⟩ : ∃ of, o ++ ((list.take q).drop at_).map (oneRow col) = of := ⟨_, rfl⟩
          have HOF := Aside0.mk hof
          have hofl : of.length = o.length + (q - at_) := by rw [← hof]; simp; omega
          rw [hof] at HCf
          have HXf : Aside0 (wf.heap[wr.heap.size]? = some (.cells (rowCells x).toArray 63 (0, 0))) := by
            have hq := HQ.out
            refine ⟨(HKf.out.2.1 _ (blk_lt HX1.out) (by omega) (by omega) (fun e => ?_)).trans HX1.out⟩
            have := HVLT.out _ e.symm
            omega
          obtain ⟨Af, cf, rfl⟩ := Kd.R_slice HCf.out.2.2.2.1.2
          have ccf : wf.cell? ⟨w.heap.size, 0, none⟩ = some (.int .i64 (col : Int)) := cell_blk HCf.out.2.2.1 rfl
          have hcx : col < x.1.length := by rw [HX16.out]; exact hcol
          obtain ⟨xv, cxf⟩ : ∃ xv, wf.cell? ⟨wr.heap.size, col, none⟩ = some (.int .u8 xv) := ⟨_, by rw [cell_of_row _ _ _ _ _ _ HXf.out, List.getElem?_toArray]; exact rowCells_get hcx⟩
          have fxf : wf.frozen? ⟨wr.heap.size, col, none⟩ = false := frozen_of_row _ _ _ _ _ HXf.out
          obtain ⟨x', hx'⟩ : ∃ x' : RowG, (x.1.set col 1, x.2) = x' := ⟨_, rfl⟩
          have HX' := Aside0.mk hx'
          have HSET : Aside0 ((rowCells x).toArray.setIfInBounds col (.int .u8 1) = (rowCells x').toArray) := ⟨by rw [rowCells_set hcx, hx']⟩
          have h16' : x'.1.length = 16 := by rw [← hx']; simpa using HX16.out
          have HX16' := Aside0.mk h16'
          have hl17' := rowCells_len h16'
          have hfold' := fold_row h16'
          clear hfold hl17 hof hx' h16' hcx
          have HOFL := Aside0.mk hofl
          clear hofl
          go_wp2_with (first
        | ((with_reducible refine gate_store (t := 5) (p := 59) rfl ?_); refine store_at (t := 5) (p := 59) (v := .const (.int .u8 1)) (w1 := wf.setCell ⟨wr.heap.size, col, none⟩ (.int .u8 1)) ?hg ?ho ?hn ?hr ?_; (case ho => rfl); (case hg => rfl); (case hn => rfl); (case hr => first | (go_simp; done) | (go_simp; rfl)); intro wg hwg; have hxg := (after_set hwg HXf.out HSET.out).1; have hqq := HQ.out; have hwq := HBW.out; have hs1 := HS1.out; have hcg := HCf.out.set_blk hwg (by omega) (by omega) (by omega) (by omega) (vf_ne HKf.out HL1.out HVLT.out (blk_lt HX1.out)) HBW.out; have cag : wg.cell? ⟨w4b + 1, 0, none⟩ = some (.int .i64 (q : Int)) := cell_blk hcg.1 rfl; have fag : wg.frozen? ⟨w4b + 1, 0, none⟩ = false := frozen_of_row _ _ _ _ _ hcg.1; have HXg := Aside0.mk hxg; have HCg := Aside0.mk hcg; clear hxg hcg hqq hwq hs1 ccf cxf fxf)
        | ((with_reducible refine gate_store (t := 3) (p := 10) rfl ?_); refine store_at (t := 3) (p := 10) (v := .tmp 61) (w1 := wg.setCell ⟨w4b + 1, 0, none⟩ (.int .i64 ((q : Int) + 1))) ?hg ?ho ?hn ?hr ?_; (case ho => rfl); (case hg => rfl); (case hn => rfl); (case hr => first | (go_simp; done) | (go_simp; rfl)); intro wh hwh; have hxh := set_at_keep hwh HXg.out (by have := HQ.out; omega); have hch := HCg.out.set_at1 hwh; have coh : wh.cell? ⟨w4b, 0, none⟩ = some (.slice Af of.length cf) := cell_blk hch.2.2.2.1.1 rfl; have HRh : Aside0 (Kd.R kRow 63 wh w.heap.size (fun _ => True) (.slice Af of.length cf) of) := ⟨hch.2.2.2.1.2⟩; have HXh := Aside0.mk hxh; have HCh := Aside0.mk hch; clear hxh hch cag fag)
        | ((with_reducible refine gate_dst (N := 63) rfl ?_); refine wpList_load_row rfl 63 _ rfl wr.heap.size rfl 63 (rowCells x').toArray (0, 0) _ HXh.out Try.underlying63 rfl (size_row HX16'.out) ?_)
        | (at_builtin; refine Kd.R_append kRow (w0 := w) w.heap.size rfl (.tmp 62) (.tmp 64) 55 63 (.agg (rowCells (noMarks, ByteArray.empty)).toArray) 32 rfl Try.underlying55 info_row rfl (by decide) (by decide) (.slice Af of.length cf) of x' (rowCells x') (fun _ => True) (fun _ => False) rfl rfl (kRow_M HX16'.out) (fun _ h => h.elim) (fun _ _ => trivial) HRh.out HCh.out.2.2.2.2.1 HCh.out.2.2.2.2.1.size (by have := HOL.out; have := HOFL.out; omega) ?_; intro v4 w4 hr4 hb4 hg4 hat4; obtain ⟨A4, c4, hv4⟩ := Kd.R_slice hr4; subst hv4; have h4o := (hg4.block w4b (blk_lt HCh.out.2.2.2.1.1) (Kd.R_ne HRh.out HCh.out.2.2.2.1.1 (by decide))).trans HCh.out.2.2.2.1.1; have c4o := cell_blk (j := 0) h4o rfl; have f4o : w4.frozen? ⟨w4b, 0, none⟩ = false := frozen_of_row _ _ _ _ _ h4o; have HR4 := Aside0.mk hr4; have HB4x := Aside0.mk hb4; have HG4 := Aside0.mk hg4; have HAT := Aside0.mk hat4; clear hr4 hb4 hg4 hat4 h4o)
        | ((with_reducible refine gate_store (t := 55) (p := 9) rfl ?_); refine store_at (t := 55) (p := 9) (v := .tmp 65) (w1 := w4.setCell ⟨w4b, 0, none⟩ (.slice A4 (of ++ [x']).length c4)) ?hg ?ho ?hn ?hr ?_; (case ho => rfl); (case hg => rfl); (case hn => rfl); (case hr => first | (go_simp; done) | (go_simp; rfl)); intro w5 hw5; clear c4o f4o))
          go_roundw
          case measure => simp [intOf]; omega
          case rel =>
            have hlen := HOFL.out
            refine ⟨k + 1, q + 1, of ++ [x'], _, by omega, by omega, by go_num, by simp; omega, ⟨HCh.out.put HG4.out HR4.out HB4x.out hw5⟩, ⟨HKr.out.trans ?_⟩, HU, ⟨?_⟩⟩
            · exact ((((KeepsF.below HL1.out).trans HKf.out).far hwg (Nat.le_refl _)).trans (KeepsF.set_blk hwh (.inl rfl))).trans (KeepsF.put HG4.out HAT.out hw5)
            · rw [← HGr.out, comeGo_yes, ← HOF.out, HX'.out]; simp
      · have hk' : k = rs.length := by omega
        subst hk'
        have hmn : m.drop rs.length = [] := List.drop_of_length_le (by rw [HML.out]; exact Nat.le_refl _)
        rw [hmn, comeGo_nil] at HGr
        have cbl : wr.cell? ⟨w.heap.size + 1, 0, none⟩ = some (.slice Al list.length cl) := cell_blk HCr.out.2.1 rfl
        clear hmn hbw
        go_wp2_with fail
        refine (fresh_calls w wr w.heap.size (w4b + 1) (w.heap.size + 1) w.heap.size w4b Al cl list col at_ list.length o _ HC.out rfl HCr.out hcol (Nat.le_refl _) hatl hl (by omega)).mono ?_
        rintro e7 wf ⟨vf, rfl, HCf, HBf, HKf⟩
        rw [List.take_length, HGr.out] at HCf
        obtain ⟨vg, q1, q2, q3⟩ := H.out
        have hbf := HCf.out.2.2.2.2.1
        have q1f := keep_ q1 hbf
        have cgf : wf.cell? ⟨g, 0, none⟩ = some vg := cell_blk q1f rfl
        have fgf : wf.frozen? ⟨g, 0, none⟩ = false := frozen_of_row _ _ _ _ _ q1f
        obtain ⟨Af, cf, rfl⟩ := Kd.R_slice HCf.out.2.2.2.1.2
        have cof : wf.cell? ⟨w4b, 0, none⟩ = some (.slice Af (comeF col list rs).length cf) := cell_blk HCf.out.2.2.2.1.1 rfl
        have Q1F := Aside0.mk q1f
        clear q1 q3 q1f hbf cbl
        go_wp2
        go_end0
        rw [HCS.out]
        refine ⟨rfl, ⟨⟨_, (after_set ⟨rfl⟩ Q1F.out rfl).1, q2, Kd.R_set (Kd.R_lower HCf.out.2.2.2.1.2 hB) Q1F.out (by decide) _ _⟩⟩, ⟨(HCf.out.2.2.2.2.1.mono hB).setCell (p := ⟨g, 0, none⟩) q2 _⟩⟩
  · have HCS : Aside0 (comeS col list rs e = (rs, 4)) := ⟨if_neg hok⟩
    have hlong : 2000 < a.length ∨ 2000 < b.length := by rw [HLA.out, HLB.out]; omega
    have z0 := C_cap K0.out
    have n0 := Kd.C_max K0.out
    have n1 := Kd.C_max K1.out
    obtain ⟨v, hg1, hg2, hg3⟩ := HR3.out
    have cg : w3.cell? ⟨g, 1, none⟩ = some (.int .i64 e) := cell_blk hg1 rfl
    have fg : w3.frozen? ⟨g, 1, none⟩ = false := frozen_of_row _ _ _ _ _ hg1
    have HG1 := Aside0.mk hg1
    have HG3 := Aside0.mk hg3
    clear hg1 hg3 z0
    go_wp2
    refine start_ (n := 12) (S := fun w' => w'.cell? ⟨gi, 0, none⟩ = some (.slice A0 a.length c0) ∧ w'.cell? ⟨gi, 1, none⟩ = some (.slice A1 b.length c1)) (ds := []) #[false, false, false, false, false, false, false, false, false, false, false, false] (by kernel_rfl) rfl rfl ⟨x0, x1⟩ (fun hHeld => ?_)
    refine pure_ (i := 0) (N := some 21) (v := ?_) (a' := ?_) #[true, false, false, false, false, false, false, false, false, false, false, false] rfl rfl (by kernel_rfl) (fun _ _ _ h => h) (Or.inl ⟨by rfl, ?_⟩) ?_ ?_
    rotate_left
    · intro w'
      go_simp
      with_reducible rfl
    rotate_left
    · simp only [Act.put, List.setIfInBounds_toArray, List.set_cons_zero, List.set_cons_succ, i64_w, i32_w]
      rfl
    refine pure_ (i := 1) (N := some 22) (v := ?_) (a' := ?_) #[true, true, false, false, false, false, false, false, false, false, false, false] rfl rfl (by kernel_rfl) (fun _ _ _ h => h) (Or.inl ⟨by rfl, ?_⟩) ?_ ?_
    rotate_left
    · intro w'
      go_simp
      with_reducible rfl
    rotate_left
    · simp only [Act.put, List.setIfInBounds_toArray, List.set_cons_zero, List.set_cons_succ, i64_w, i32_w]
      rfl
    refine pure_ (i := 3) (N := some 24) (v := ?_) (a' := ?_) #[true, true, false, true, false, false, false, false, false, false, false, false] rfl rfl (by kernel_rfl) (fun _ _ _ h => h) (Or.inl ⟨by rfl, ?_⟩) ?_ ?_
    rotate_left
    · intro w'
      go_simp
      with_reducible rfl
    rotate_left
    · simp only [Act.put, List.setIfInBounds_toArray, List.set_cons_zero, List.set_cons_succ, i64_w, i32_w]
      rfl
    refine pure_ (i := 4) (N := some 25) (v := ?_) (a' := ?_) #[true, true, false, true, true, false, false, false, false, false, false, false] rfl rfl (by kernel_rfl) (fun _ _ _ h => h) (Or.inl ⟨by rfl, ?_⟩) ?_ ?_
    rotate_left
    · intro w'
      go_simp
      with_reducible rfl
    rotate_left
    · simp only [Act.put, List.setIfInBounds_toArray, List.set_cons_zero, List.set_cons_succ, i64_w, i32_w]
      rfl
    refine take_ (i := 2) (N := some 23) (v := ?_) (a' := ?_) #[true, true, true, true, true, false, false, false, false, false, false, false] rfl rfl (by kernel_rfl) (fun _ _ _ h => h) (Or.inl ⟨by rfl, ?_⟩) hHeld ?_ ?_
    rotate_left
    · rintro w' ⟨s0, s1⟩
      go_simp
      with_reducible rfl
    rotate_left
    · simp only [Act.put, List.setIfInBounds_toArray, List.set_cons_zero, List.set_cons_succ, i64_w, i32_w]
      rfl
    refine take_ (i := 5) (N := some 26) (v := ?_) (a' := ?_) #[true, true, true, true, true, true, false, false, false, false, false, false] rfl rfl (by kernel_rfl) (fun _ _ _ h => h) (Or.inl ⟨by rfl, ?_⟩) hHeld ?_ ?_
    rotate_left
    · rintro w' ⟨s0, s1⟩
      go_simp
      with_reducible rfl
    rotate_left
    · simp only [Act.put, List.setIfInBounds_toArray, List.set_cons_zero, List.set_cons_succ, i64_w, i32_w]
      rfl
    refine one_ (i := 6) (N := some 27) #[true, true, true, true, true, true, true, false, false, false, false, false] rfl rfl (by kernel_rfl) (by decide) (fun K hK => ?_)
    refine goes_ Try.func31 (by kernel_rfl) rfl #[.slice A0 a.length c0, .slice A1 b.length c1] (by rfl) rfl rfl (by simp only [List.map_toArray, List.map_cons, List.map_nil]; rfl) ?_
    with_reducible refine (lcs_New_long A0 c0 a A1 c1 b w3.drew n0 n1 hlong).mono ?_
    rintro e4 w4 ⟨rfl, rfl⟩
    refine ⟨_, rfl, ?_⟩
    refine hK.out _ _ ⟨x0, x1⟩ (fun hHeld => ?_)
    clear hK K
    refine norm_ (a' := ?_) ?_ ?_
    rotate_left
    · show Act.put _ (some 27) _ = _
      simp only [Act.put, List.setIfInBounds_toArray, List.set_cons_zero, List.set_cons_succ, i64_w, i32_w]
      rfl
    refine pure_ (i := 7) (N := some 20) (v := ?_) (a' := ?_) #[true, true, true, true, true, true, true, true, false, false, false, false] rfl rfl (by kernel_rfl) (fun _ _ _ h => h) (Or.inl ⟨by rfl, ?_⟩) ?_ ?_
    rotate_left
    · intro w'
      go_simp
      with_reducible rfl
    rotate_left
    · simp only [Act.put, List.setIfInBounds_toArray, List.set_cons_zero, List.set_cons_succ, i64_w, i32_w]
      rfl
    refine pure_ (i := 8) (N := some 28) (v := ?_) (a' := ?_) #[true, true, true, true, true, true, true, true, true, false, false, false] rfl rfl (by kernel_rfl) (fun _ _ _ h => h) (Or.inl ⟨by rfl, ?_⟩) ?_ ?_
    rotate_left
    · intro w'
      go_simp
      with_reducible rfl
    rotate_left
    · simp only [Act.put, List.setIfInBounds_toArray, List.set_cons_zero, List.set_cons_succ, i64_w, i32_w]
      rfl
    refine pure_ (i := 9) (N := some 29) (v := ?_) (a' := ?_) #[true, true, true, true, true, true, true, true, true, true, false, false] rfl rfl (by kernel_rfl) (fun _ _ _ h => h) (Or.inl ⟨by rfl, ?_⟩) ?_ ?_
    rotate_left
    · intro w'
      go_simp
      with_reducible rfl
    rotate_left
    · simp only [Act.put, List.setIfInBounds_toArray, List.set_cons_zero, List.set_cons_succ, i64_w, i32_w]
      rfl
    refine pure_ (i := 10) (N := some 7) (v := ?_) (a' := ?_) #[true, true, true, true, true, true, true, true, true, true, true, false] rfl rfl (by kernel_rfl) (fun _ _ _ h => h) (Or.inl ⟨by rfl, ?_⟩) ?_ ?_
    rotate_left
    · intro w'
      go_simp
      with_reducible rfl
    rotate_left
    · simp only [Act.put, List.setIfInBounds_toArray, List.set_cons_zero, List.set_cons_succ, i64_w, i32_w]
      rfl
    refine pure_ (i := 11) (N := some 8) (v := ?_) (a' := ?_) #[true, true, true, true, true, true, true, true, true, true, true, true] rfl rfl (by kernel_rfl) (fun _ _ _ h => h) (Or.inl ⟨by rfl, ?_⟩) ?_ ?_
    rotate_left
    · intro w'
      go_simp
      with_reducible rfl
    rotate_left
    · simp only [Act.put, List.setIfInBounds_toArray, List.set_cons_zero, List.set_cons_succ, i64_w, i32_w]
      rfl
    refine done_ (by kernel_rfl) ?_

    go_wp2
    refine bodyPost_ret (v := .tuple #[]) (by simp [results, Try.results39, go_sem]) rfl ?_
    rw [HCS.out]
    refine ⟨rfl, ⟨⟨v, (after_set ⟨rfl⟩ HG1.out rfl).1, hg2, Kd.R_set HG3.out HG1.out (by decide) _ _⟩⟩, ⟨?_⟩⟩
    exact (((HB1.out.mono hB).trans (HW3.out.mono (Nat.le_trans hB HB1.out.size)) |>.drew)).setCell (p := ⟨g, 1, none⟩) hg2 _
end Go.Proofs.Ytnlekganlliikaa.X
