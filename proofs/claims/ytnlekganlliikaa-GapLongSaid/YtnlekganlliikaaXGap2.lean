/-
  (*gap.rows).come's closure 'fresh': by hand.
-/
import Derived.Test.YtnlekganlliikaaXGap1
namespace Go.Proofs.Ytnlekganlliikaa.X
open Go.RowKit Go.Proofs.YtnlekganlliikaaW.PrintWords Go.Proofs.YtnlekganlliikaaW.PrintLast Go.Proofs.YtnlekganlliikaaW.PrintMore
set_option linter.unusedVariables false
set_option linter.unusedSimpArgs false

theorem rowCells_get {x : RowG} {j : Nat} (h : j < x.1.length) : (rowCells x)[j]? = some (.int .u8 x.1[j]) := by
  rw [rowCells, List.getElem?_append_left (by simpa using h)]; simp [h]
theorem rowCells_set {x : RowG} {j : Nat} (h : j < x.1.length) (v : Int) : (rowCells x).toArray.setIfInBounds j (.int .u8 v) = (rowCells (x.1.set j v, x.2)).toArray := by
  simp only [rowCells, List.setIfInBounds_toArray]
  rw [List.set_append_left _ _ (by simpa using h), List.map_set]
def noMarks : List Int := List.replicate 16 0
theorem zeroRow_cell {col : Nat} (h : col < 16) (s : ByteArray) : (rowCells (noMarks, s)).toArray[col]? = some (.int .u8 0) := by
  have := rowCells_get (x := (noMarks, s)) (j := col) (by simpa [noMarks] using h)
  rw [List.getElem?_toArray, this]
  simp only [noMarks, List.getElem_replicate]
theorem info_row : (Try.prog.info? 63).map (fun i => (i.zero, i.size, i.bytes)) = some (some (.agg (rowCells (noMarks, ByteArray.empty)).toArray), 17, 32) := by kernel_rfl
theorem size_row {x : RowG} (h : x.1.length = 16) : (Try.prog.info? 63).map (·.size) = some (rowCells x).toArray.size := by
  have e : (Try.prog.info? 63).map (·.size) = some 17 := by kernel_rfl
  rw [e]
  exact congrArg some (rowCells_len h).symm
/-- A row with one mark. -/
def oneRow (col : Nat) (s : ByteArray) : RowG := (noMarks.set col 1, s)
/-- The boxes that 'fresh' has: how far it is, the list, the column, the rows that come. -/
def ComeI (w0 W : World) (B Ba Bl Bc Bo : Nat) (Al : Option Addr) (cl : Nat) (list : List ByteArray) (col at_ : Nat) (rs : List RowG) (v : Value) : Prop :=
  W.heap[Ba]? = some (.cells #[.int .i64 (at_ : Int)] 3 (0, 0)) ∧ W.heap[Bl]? = some (.cells #[.slice Al list.length cl] 34 (0, 0)) ∧ W.heap[Bc]? = some (.cells #[.int .i64 (col : Int)] 3 (0, 0)) ∧
    (W.heap[Bo]? = some (.cells #[v] 55 (0, 0)) ∧ Kd.R kRow 63 W B (fun _ => True) v rs) ∧ Below B w0 W ∧ B ≤ Ba ∧ B ≤ Bo ∧ Ba ≠ Bc
theorem own_eq (A : Option Addr) (n c n' c' : Nat) : (Value.slice A n c).ownBlock = (Value.slice A n' c').ownBlock := by cases A <;> rfl
/-- What 'fresh' leaves: all but its boxes, and the rows that come. -/
def KeepsF (Ba Bo : Nat) (W W' : World) (v v' : Value) : Prop :=
  W.heap.size ≤ W'.heap.size ∧ (∀ k, k < W.heap.size → k ≠ Ba → k ≠ Bo → some k ≠ v.ownBlock → W'.heap[k]? = W.heap[k]?) ∧ (v'.ownBlock = v.ownBlock ∨ ∃ b, v'.ownBlock = some b ∧ W.heap.size ≤ b)
theorem KeepsF.refl (Ba Bo : Nat) (W : World) (v : Value) : KeepsF Ba Bo W W v v := ⟨Nat.le_refl _, fun _ _ _ _ _ => rfl, .inl rfl⟩
theorem KeepsF.trans {Ba Bo : Nat} {W W1 W2 : World} {v v1 v2 : Value} (h : KeepsF Ba Bo W W1 v v1) (k : KeepsF Ba Bo W1 W2 v1 v2) : KeepsF Ba Bo W W2 v v2 := by
  refine ⟨Nat.le_trans h.1 k.1, fun i hi h1 h2 h3 => ?_, ?_⟩
  · refine (k.2.1 i (Nat.lt_of_lt_of_le hi h.1) h1 h2 (fun e => ?_)).trans (h.2.1 i hi h1 h2 h3)
    rcases h.2.2 with h4 | ⟨b, h4, h5⟩
    · exact h3 (e.trans h4)
    · rw [h4] at e; injection e with e; omega
  · rcases k.2.2 with h4 | ⟨b, h4, h5⟩
    · rcases h.2.2 with h6 | ⟨b, h6, h7⟩
      · exact .inl (h4.trans h6)
      · exact .inr ⟨b, h4.trans h6, h7⟩
    · exact .inr ⟨b, h4, Nat.le_trans h.1 h5⟩
theorem KeepsF.below {Ba Bo : Nat} {W W1 : World} {v : Value} (h : Below W.heap.size W W1) : KeepsF Ba Bo W W1 v v := ⟨h.size, fun k hk _ _ _ => h.block k hk, .inl rfl⟩
/-- How far it is, read off the world. -/
def atOf (Ba : Nat) (W : World) : Nat := match W.cell? ⟨Ba, 0, none⟩ with | some (.int _ n) => n.toNat | _ => 0
theorem atOf_of {Ba : Nat} {W : World} {n : Nat} {k : IntKind} (h : W.cell? ⟨Ba, 0, none⟩ = some (.int k (n : Int))) : atOf Ba W = n := by simp [atOf, h]

theorem wpList_store_row {P : Program} {ops : Array Oper} {rest : List Oper} {o : Oper} {a : Act} {w : World} {Q : Exit → Act → World → Prop} (hgd : o.guard = none) (t : TypeId) (p : Tmp) (x : Operand) (ho : o.op = .store t (.tmp p) x) (hN : o.dst = none)
    {b : Nat} (hb : b = w.heap.size) (hp : a.eval (.tmp p) = .pointer (some ⟨b, 0, none⟩)) {c c' : Array Value} (hx : a.eval x = .agg c') (hi : (P.info? t).map (·.size) = some c'.size) (hs : c.size = c'.size) (h1 : c'.all (·.oneCell') = true)
    (h : ∀ w1 : World, w1.heap[w.heap.size]? = some (.cells c' t (0, 0)) → Below w.heap.size w w1 → w.heap.size < w1.heap.size → wpList P ops Q rest a w1) : wpList P ops Q (o :: rest) a (w.alloc (.cells c t)) :=
  wpList_store_new hgd t p x ho hN hb hp hx hi hs h1 (h _ (blk_new _ _) ((Below.refl _ _).alloc (Nat.le_refl _) _) (by simp))
theorem fold_cells : ∀ (c : List Value) (k : Nat) (z : Array Value), k + c.length = z.size → List.foldl (fun (cs : Array Value) (x : Value × Nat) => cs.setIfInBounds x.2 x.1) z (c.zipIdx k) = (z.toList.take k ++ c).toArray
  | [], k, z, h => by simp at h; simp [List.take_of_length_le, h]
  | v :: c, k, z, h => by
    rw [List.zipIdx_cons, List.foldl_cons, fold_cells c (k + 1) (z.setIfInBounds k v) (by simp at h ⊢; omega)]
    congr 1
    have hk : k < z.toList.length := by simp at h ⊢; omega
    rw [Array.toList_setIfInBounds, List.take_succ_eq_append_getElem (by simpa using hk), List.take_set_of_le (Nat.le_refl _), List.getElem_set_self]
    simp
theorem fold_row {x : RowG} (h : x.1.length = 16) : List.foldl (fun (cs : Array Value) (x : Value × Nat) => cs.setIfInBounds x.2 x.1) #[.int .u8 0, .int .u8 0, .int .u8 0, .int .u8 0, .int .u8 0, .int .u8 0, .int .u8 0, .int .u8 0, .int .u8 0, .int .u8 0, .int .u8 0, .int .u8 0, .int .u8 0, .int .u8 0, .int .u8 0, .int .u8 0, .string ⟨#[]⟩] (rowCells x).zipIdx = (rowCells x).toArray := by
  rw [fold_cells _ _ _ (by rw [rowCells_len h]; rfl)]; simp
theorem after_set {w1 w2 : World} {b j : Nat} {v : Value} {cs cs' : Array Value} {t : TypeId} (hw : Aside0 (w2 = w1.setCell ⟨b, j, none⟩ v)) (hb : w1.heap[b]? = some (.cells cs t (0, 0))) (hc : cs.setIfInBounds j v = cs') :
    w2.heap[b]? = some (.cells cs' t (0, 0)) ∧ (∀ k, k ≠ b → w2.heap[k]? = w1.heap[k]?) ∧ w2.heap.size = w1.heap.size := by
  obtain rfl := hw.out
  exact ⟨by rw [heap_set_same hb, hc], fun k hk => heap_set_other hk _, by simp [World.setCell]⟩
theorem below_set {n b j : Nat} {v : Value} {w w1 w2 : World} (h : Below n w w1) (hw : Aside0 (w2 = w1.setCell ⟨b, j, none⟩ v)) (hn : n ≤ b) : Below n w w2 := by
  obtain rfl := hw.out
  exact h.setCell (p := ⟨b, j, none⟩) hn _
theorem blk_ne {W : World} {a b : Nat} {cs cs' : Array Value} {t t' : TypeId} (h : W.heap[a]? = some (.cells cs t (0, 0))) (k : W.heap[b]? = some (.cells cs' t' (0, 0))) (ht : t ≠ t') : a ≠ b := by
  rintro rfl
  rw [h] at k
  cases k
  exact ht rfl
theorem keep4 {W W2 W4 : World} {b : Nat} {o : Obj} {row : Option Nat} (h : W.heap[b]? = some o) (h2 : Below W.heap.size W W2) (h4 : W2.grownBy W4 row) (hne : some b ≠ row) : W4.heap[b]? = some o :=
  have hb := (Array.getElem?_eq_some_iff.1 h).1
  (h4.block b (Nat.lt_of_lt_of_le hb h2.size) hne).trans ((h2.block b hb).trans h)
theorem keep_ {W W1 : World} {b : Nat} {o : Obj} (h : W.heap[b]? = some o) (hb : Below W.heap.size W W1) : W1.heap[b]? = some o := (hb.block b (Array.getElem?_eq_some_iff.1 h).1).trans h
theorem set_keep {W : World} {b g j : Nat} {o : Obj} (h : W.heap[b]? = some o) (hne : b ≠ g) (v : Value) : (W.setCell ⟨g, j, none⟩ v).heap[b]? = some o := (heap_set_other hne v).trans h

set_option maxRecDepth 100000 in
set_option maxHeartbeats 8000000 in
theorem fresh_calls (w0 w : World) (B Ba Bl Bc Bo : Nat) (Al : Option Addr) (cl : Nat) (list : List ByteArray) (col a0 m : Nat) (rs : List RowG) (v0 : Value) (hC : Kd.C Kd.string w0 Al list.length list) (hB : B = w0.heap.size)
    (h : ComeI w0 w B Ba Bl Bc Bo Al cl list col a0 rs v0) (hcol : col < 16) (hto : m ≤ list.length) (ha : a0 ≤ m) (hl : list.length ≤ 100000) (hr : rs.length + list.length ≤ 1000000) :
    Calls Try.prog 64 #[.int .i64 (m : Int), .pointer (some ⟨Ba, 0, none⟩), .pointer (some ⟨Bl, 0, none⟩), .pointer (some ⟨Bc, 0, none⟩), .pointer (some ⟨Bo, 0, none⟩)] w fun e w' => ∃ v', e = .returned (.tuple #[]) ∧
      Aside0 (ComeI w0 w' B Ba Bl Bc Bo Al cl list col m (rs ++ ((list.take m).drop a0).map (oneRow col)) v') ∧ Aside0 (Below B w w') ∧ Aside0 (KeepsF Ba Bo w w' v0 v') := by
  have HC := Aside0.mk hC
  have HI := Aside0.mk h
  have HBw : Aside0 (B ≤ w.heap.size) := ⟨by rw [hB]; exact h.2.2.2.2.1.size⟩
  have HB0 := Aside0.mk hB
  clear hC h hB
  go_enter Try.func64, Try.ntmps64
  go_wp2_with fail
  go_loopw [] (fun wr => ∃ (k : Nat) (v : Value), a0 ≤ k ∧ k ≤ m ∧ Aside0 (ComeI w0 wr B Ba Bl Bc Bo Al cl list col k (rs ++ ((list.take k).drop a0).map (oneRow col)) v) ∧ Aside0 (Below B w wr) ∧ Aside0 (KeepsF Ba Bo w wr v0 v)) (fun wr => list.length - atOf Ba wr)
  case atStart => exact ⟨a0, v0, Nat.le_refl _, ha, by rw [List.drop_of_length_le (by rw [List.length_take]; omega)]; simpa using HI, ⟨Below.refl _ _⟩, ⟨KeepsF.refl _ _ _ _⟩⟩
  case round =>
    obtain ⟨k, v, hak, hk, HIr, HBr, HKr⟩ := hrel
    obtain ⟨h1, h2, h3, ⟨h4, h5⟩, h6, h7, h8, h9⟩ := HIr.out
    have ca : wr.cell? ⟨Ba, 0, none⟩ = some (.int .i64 (k : Int)) := cell_blk h1 rfl
    have H1 := Aside0.mk h1
    have H2 := Aside0.mk h2
    have H3 := Aside0.mk h3
    have H4 := Aside0.mk h4
    have H5 := Aside0.mk h5
    have H6 := Aside0.mk h6
    have H7 := Aside0.mk h7
    have H8 := Aside0.mk h8
    have H9 := Aside0.mk h9
    clear h1 h2 h3 h4 h5 h6 h7 h8 h9
    by_cases hlt : k < m
    · have cl_ : wr.cell? ⟨Bl, 0, none⟩ = some (.slice Al list.length cl) := cell_blk H2.out rfl
      have cc : wr.cell? ⟨Bc, 0, none⟩ = some (.int .i64 (col : Int)) := cell_blk H3.out rfl
      have co : wr.cell? ⟨Bo, 0, none⟩ = some v := cell_blk H4.out rfl
      obtain ⟨ad, rfl, hs⟩ := at_str HC.out k (by omega)
      replace hs := (H6.out.cell (by rw [HB0.out]; exact World.block_lt_of_cell? w0 _ hs)).trans hs
      have hkl : k < list.length := by omega
      have hsn : (list.take (k + 1)).drop a0 = (list.take k).drop a0 ++ [list.getD k ByteArray.empty] := by
        rw [← List.take_append_getElem hkl, List.drop_append_of_le_length (by rw [List.length_take]; omega)]
        simp only [getD_get hkl]
      have HSN := Aside0.mk hsn
      obtain ⟨s, hse⟩ : ∃ s, list.getD k ByteArray.empty = s := ⟨_, rfl⟩
      rw [hse] at hs HSN
      clear hse hsn
      obtain ⟨Ao, co_, rfl⟩ := Kd.R_slice H5.out
      have HZ : Aside0 ((rs ++ ((list.take k).drop a0).map (oneRow col)).length = rs.length + (k - a0)) := ⟨by simp; omega⟩
      obtain ⟨rws, hrw⟩ : ∃ rws, rs ++ ((list.take k).drop a0).map (oneRow col) = rws := ⟨_, rfl⟩
      have HRW := Aside0.mk hrw
      rw [hrw] at co HZ H4 H5
      clear hrw
      obtain ⟨n, hn⟩ : ∃ n, rws.length = n := ⟨_, rfl⟩
      rw [hn] at co HZ H4
      have HN := Aside0.mk hn
      have hH5 := H5.out
      rw [hn] at hH5
      have HR := Aside0.mk hH5
      clear hn hH5
      have hn5 : n ≤ 1000000 := by have := HZ.out; omega
      have b1 : decide ((k : Int) < (m : Int)) = true := decide_eq_true (by omega)
      have b2 : decide (k < m) = true := decide_eq_true hlt
      have e1 : wrap64 ((k : Int) + 1) = (k : Int) + 1 := by unfold wrap64; omega
      have hz16 : ((noMarks, s) : RowG).1.length = 16 := rfl
      have hcn : col < noMarks.length := hcol
      obtain ⟨x, hx⟩ : ∃ x, oneRow col s = x := ⟨_, rfl⟩
      have hx16 : x.1.length = 16 := by rw [← hx]; simp [oneRow, noMarks]
      have HX16 := Aside0.mk hx16
      have hfold := fold_row hx16
      have hl17 := rowCells_len hx16
      have HXE := Aside0.mk hx
      have hset : (rowCells (noMarks, s)).toArray.setIfInBounds col (.int .u8 1) = (rowCells x).toArray := by rw [rowCells_set hcn, ← hx]; rfl
      have HSET := Aside0.mk hset
      clear hset hx hx16 hz16
      go_wp2_with (first
        | ((with_reducible refine gate_store (t := 63) (p := 6) rfl ?_); (refine wpList_store_row rfl 63 6 _ rfl rfl (b := wr.heap.size) rfl rfl (c' := (rowCells (noMarks, s)).toArray) rfl (by kernel_rfl) (by rfl) rowCells_one ?_; intro w1 hb1 hl1 hz1; have cc1 : w1.cell? ⟨Bc, 0, none⟩ = some (.int .i64 (col : Int)) := cell_blk (keep_ H3.out hl1) rfl; have cx1 : w1.cell? ⟨wr.heap.size, col, none⟩ = some (.int .u8 0) := (cell_of_row _ _ _ _ _ _ hb1).trans (zeroRow_cell hcol s); have fx1 : w1.frozen? ⟨wr.heap.size, col, none⟩ = false := frozen_of_row _ _ _ _ _ hb1; have HB1 := Aside0.mk hb1; have HL1 := Aside0.mk hl1; have HZ1 := Aside0.mk hz1; clear hb1 hl1 hz1))
        | ((with_reducible refine gate_store (t := 5) (p := 19) rfl ?_); (refine store_at (t := 5) (p := 19) (v := .const (.int .u8 1)) (w1 := w1.setCell ⟨wr.heap.size, col, none⟩ (.int .u8 1)) ?hg ?ho ?hn ?hr ?_; (case ho => rfl); (case hg => rfl); (case hn => rfl); (case hr => first | (go_simp; done) | (go_simp; rfl)); intro w2 hw2; have hl2 := below_set HL1.out hw2 (Nat.le_refl _); have hb2 := (after_set hw2 HB1.out HSET.out).1; have c2o := (hl2.cell (World.block_lt_of_cell? wr _ co)).trans co; have HB2 := Aside0.mk hb2; have HL2 := Aside0.mk hl2; have HW2 : Aside0 (Below B w w2) := ⟨HBr.out.trans (hl2.mono (Nat.le_trans HBw.out HBr.out.size))⟩; have HZ2 : Aside0 (wr.heap.size < w2.heap.size) := ⟨blk_lt hb2⟩; clear hb2 hl2 hw2 cc1 cx1 fx1))
        | ((with_reducible refine gate_dst (N := 21) rfl ?_); (refine wpList_load_row rfl 63 _ rfl wr.heap.size rfl 63 (rowCells x).toArray (0, 0) _ HB2.out Try.underlying63 rfl (size_row HX16.out) ?_))
        | (at_builtin; (refine Kd.R_append kRow (w0 := w) B rfl (.tmp 20) (.tmp 22) 55 63 (.agg (rowCells (noMarks, ByteArray.empty)).toArray) 32 rfl Try.underlying55 info_row rfl (by decide) (by decide) (.slice Ao n co_) rws x (rowCells x) (fun _ => True) (fun _ => False) rfl rfl (kRow_M HX16.out) (fun _ h => h.elim) (fun _ _ => trivial) (Kd.R_below HR.out HL2.out) HW2.out (Nat.le_trans HBw.out HW2.out.size) (by rw [HN.out]; omega) ?_; intro v4 w4 hr4 hb4 hg4 hat4; have hgn : some Bo ≠ (Value.slice Ao n co_).ownBlock := Kd.R_ne HR.out H4.out (by decide); have h4o := (hg4.block Bo (Nat.lt_of_lt_of_le (blk_lt H4.out) HL2.out.size) hgn).trans (keep_ H4.out HL2.out); obtain ⟨A4, c4, hv4⟩ := Kd.R_slice hr4; subst hv4; have c4o : w4.cell? ⟨Bo, 0, none⟩ = some (.slice Ao n co_) := cell_blk h4o rfl; have f4o : w4.frozen? ⟨Bo, 0, none⟩ = false := frozen_of_row _ _ _ _ _ h4o; have HR4 := Aside0.mk hr4; have HB4 := Aside0.mk hb4; have HG4 := Aside0.mk hg4; have HAT := Aside0.mk hat4; have H4O := Aside0.mk h4o; have hl4 : (rws ++ [x]).length = n + 1 := (by simp [HN.out]); rw [hl4] at HR4 ⊢; clear hr4 hb4 hg4 h4o hat4 hgn c2o hl4))
        | ((with_reducible refine gate_store (t := 55) (p := 4) rfl ?_); (refine store_at (t := 55) (p := 4) (v := .tmp 23) (w1 := w4.setCell ⟨Bo, 0, none⟩ (.slice A4 (n + 1) c4)) ?hg ?ho ?hn ?hr ?_; (case ho => rfl); (case hg => rfl); (case hn => rfl); (case hr => first | (go_simp; done) | (go_simp; rfl)); intro w5 hw5; have hBaBo := blk_ne H1.out H4.out (by decide); have h5a := ((after_set hw5 H4O.out rfl).2.1 Ba hBaBo).trans (keep4 H1.out HL2.out HG4.out (Kd.R_ne HR.out H1.out (by decide))); have ca5 := cell_blk (j := 0) h5a rfl; have f5a : w5.frozen? ⟨Ba, 0, none⟩ = false := frozen_of_row _ _ _ _ _ h5a; have H5A := Aside0.mk h5a; clear c4o f4o h5a hBaBo))
        | ((with_reducible refine gate_store (t := 3) (p := 1) rfl ?_); (refine store_at (t := 3) (p := 1) (v := .tmp 11) (w1 := w5.setCell ⟨Ba, 0, none⟩ (.int .i64 ((k : Int) + 1))) ?hg ?ho ?hn ?hr ?_; (case ho => rfl); (case hg => rfl); (case hn => rfl); (case hr => first | (go_simp; done) | (go_simp; rfl)); intro w6 hw6; clear ca5 f5a)))
      go_roundw
      case measure =>
        have e6 : atOf Ba w6 = k + 1 := atOf_of (k := .i64) (n := k + 1) ((cell_blk (j := 0) (after_set hw6 H5A.out rfl).1 rfl).trans (by simp))
        rw [e6, atOf_of ca]; omega
      case rel =>
        have hBaBo := blk_ne H1.out H4.out (by decide)
        have hBlBo := blk_ne H2.out H4.out (by decide)
        have hBlBa := blk_ne H2.out H1.out (by decide)
        have hBcBo := blk_ne H3.out H4.out (by decide)
        have h6a := (after_set hw6 H5A.out rfl).1
        have o5 := (after_set hw5 H4O.out rfl).2.1
        have o6 := (after_set hw6 H5A.out rfl).2.1
        have h5o := (after_set hw5 H4O.out rfl).1
        have r5 : Kd.R kRow 63 w5 B (fun _ => True) (.slice A4 (n + 1) c4) (rws ++ [x]) := by rw [hw5.out]; exact Kd.R_set HR4.out H4O.out (by decide) _ _
        have r6 : Kd.R kRow 63 w6 B (fun _ => True) (.slice A4 (n + 1) c4) (rws ++ [x]) := by rw [hw6.out]; exact Kd.R_set r5 H5A.out (by decide) _ _
        have hrw2 : rs ++ ((list.take (k + 1)).drop a0).map (oneRow col) = rws ++ [x] := by rw [HSN.out, List.map_append, ← List.append_assoc, HRW.out, List.map_singleton, HXE.out]
        have hb6 : Below B w w6 := below_set (below_set HB4.out hw5 H8.out) hw6 H7.out
        refine ⟨k + 1, .slice A4 (n + 1) c4, by omega, by omega, ⟨⟨?_, ?_, ?_, ⟨?_, ?_⟩, ?_, H7.out, H8.out, H9.out⟩⟩, ⟨hb6⟩, ⟨HKr.out.trans ⟨?_, fun q hq h1 h2 h3 => ?_, ?_⟩⟩⟩
        · rw [h6a]; simp
        · exact (o6 Bl hBlBa).trans ((o5 Bl hBlBo).trans (keep4 H2.out HL2.out HG4.out (Kd.R_ne HR.out H2.out (by decide))))
        · exact (o6 Bc H9.out.symm).trans ((o5 Bc hBcBo).trans (keep4 H3.out HL2.out HG4.out (Kd.R_ne HR.out H3.out (by decide))))
        · exact (o6 Bo hBaBo.symm).trans h5o
        · rw [hrw2]; exact r6
        · exact HI.out.2.2.2.2.1.trans hb6
        · rw [(after_set hw6 H5A.out rfl).2.2, (after_set hw5 H4O.out rfl).2.2]
          exact Nat.le_trans HL2.out.size HG4.out.size
        · exact (o6 q h1).trans ((o5 q h2).trans ((HG4.out.block q (Nat.lt_of_lt_of_le hq HL2.out.size) (fun e => h3 (e.trans (own_eq _ _ _ _ _)))).trans (HL2.out.block q hq)))
        · rcases HAT.out with h | ⟨b, h, hh⟩
          · exact .inl ((own_eq _ _ _ _ _).trans (h.trans (own_eq _ _ _ _ _)))
          · exact .inr ⟨b, (own_eq _ _ _ _ _).trans h, Nat.le_trans HL2.out.size hh⟩
    · have hk' : k = m := by omega
      subst hk'
      go_wp2
      go_end0
      exact ⟨_, rfl, HIr, HBr, HKr⟩
end Go.Proofs.Ytnlekganlliikaa.X
