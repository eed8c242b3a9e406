/-
  gap: rows as kinds; (*gap.rows).texts: by hand.
-/
import Derived.Test.YtnlekganlliikaaXKit
import Derived.Shelf.SlicesQ.Load
import Derived.Deep.WholeRow
import Derived.Deep.MidRow
import Derived.Deep.Slices
namespace Go.Proofs.Ytnlekganlliikaa.X
open Go.RowKit Go.Proofs.YtnlekganlliikaaW.PrintWords Go.Proofs.YtnlekganlliikaaW.PrintLast Go.Proofs.YtnlekganlliikaaW.PrintMore
set_option linter.unusedVariables false
set_option linter.unusedSimpArgs false

abbrev RowG := List Int × ByteArray
abbrev kM : Kd (List Int) := Kd.arr 16 (Kd.int .u8) (by decide)
abbrev kRow : Kd RowG := Kd.pair kM Kd.string
def rowCells (x : RowG) : List Value := x.1.map (Value.int .u8) ++ [.string x.2]
theorem kRow_K {w : World} {x : RowG} {cs : List Value} : kRow.K w x cs ↔ x.1.length = 16 ∧ cs = rowCells x := by
  constructor
  · rintro ⟨c0, c1, rfl, h0, h1⟩
    obtain ⟨h2, h3⟩ := Kd.arr_cells (enc := Value.int .u8) (h1 := fun _ => rfl) (hs := by decide) h0
    exact ⟨h2, by rw [h3, show c1 = _ from h1]; rfl⟩
  · rintro ⟨h1, rfl⟩
    exact ⟨_, _, rfl, (Kd.arr 16 (Kd.int .u8) (by decide)).K_of_M (base := 0) (ok := fun _ => True) (Kd.arr_of_cells (enc := Value.int .u8) (h1 := fun _ => rfl) (hs := by decide) h1), rfl⟩
theorem kRow_M {w : World} {base : Nat} {ok : Nat → Prop} {x : RowG} (h : x.1.length = 16) : kRow.M w base ok x (rowCells x) :=
  ⟨_, _, rfl, Kd.arr_of_cells (enc := Value.int .u8) (h1 := fun _ => rfl) (hs := by decide) h, rfl⟩
theorem rowCells_len {x : RowG} (h : x.1.length = 16) : (rowCells x).length = 17 := by simp [rowCells, h]
theorem rowCells_text {x : RowG} (h : x.1.length = 16) : (rowCells x)[16]? = some (.string x.2) := by
  rw [rowCells, List.getElem?_append_right (by simp [h])]; simp [h]
theorem rowCells_one {x : RowG} : (rowCells x).toArray.all (·.oneCell') = true := by
  simp [rowCells, Value.oneCell']
theorem add0_ (g o : Nat) : (⟨g, 0, none⟩ : Addr).add o = ⟨g, o, none⟩ := by unfold Addr.add; split <;> simp_all
/-- An element that is a row: its cells. -/
theorem at_row {w : World} {g : Nat} {n : Nat} {rs : List RowG} (h : kRow.C w (some ⟨g, 0, none⟩) n rs) (i : Nat) (hi : i < n) :
    (rs.getD i ([], ByteArray.empty)).1.length = 16 ∧ w.rangeAt g (i * 17) (rowCells (rs.getD i ([], ByteArray.empty))) := by
  obtain ⟨ad, c, e1, e2, e3, e4⟩ := ReadsRow.get_ h ([], ByteArray.empty) (i : Int) (by omega) (by omega)
  cases e1
  rw [Int.toNat_natCast] at e3 e4
  obtain ⟨h1, rfl⟩ := kRow_K.1 e3
  refine ⟨h1, fun j v hj => ?_⟩
  have := e4 j v hj
  rwa [show kRow.sz = 17 from rfl, add0_] at this
theorem range_below {w W : World} {b : Nat} {o : Nat} {cs : List Value} (h : w.rangeAt b o cs) (hb : Below w.heap.size w W) : W.rangeAt b o cs := fun j v hj => (hb.cell (World.block_lt_of_cell? w _ (h j v hj))).trans (h j v hj)
/-- A whole struct into the block that was made last. -/
theorem wpList_store_new {P : Program} {ops : Array Oper} {rest : List Oper} {o : Oper} {a : Act} {w : World} {Q : Exit → Act → World → Prop} (hgd : o.guard = none) (t : TypeId) (p : Tmp) (x : Operand) (ho : o.op = .store t (.tmp p) x) (hN : o.dst = none)
    {b : Nat} (hb : b = w.heap.size) (hp : a.eval (.tmp p) = .pointer (some ⟨b, 0, none⟩)) {c c' : Array Value} (hx : a.eval x = .agg c') (hi : (P.info? t).map (·.size) = some c'.size) (hs : c.size = c'.size) (h1 : c'.all (·.oneCell') = true)
    (h : wpList P ops Q rest a (w.alloc (.cells c' t))) : wpList P ops Q (o :: rest) a (w.alloc (.cells c t)) := by
  subst hb
  refine store_event hgd ho hN ?_ (fun w' hw => by rw [hw]; exact h)
  simp only [execOp, ho, hp, hx, Sem.run_bind, run_storeAt_new w t c c' hi hs h1, Result.andThen_ok]
  rfl
/-- The rows that there are, behind a pointer. -/
def RowsIn (W : World) (B g : Nat) (rs : List RowG) (e : Int) : Prop :=
  ∃ v, W.heap[g]? = some (.cells #[v, .int .i64 e] 57 (0, 0)) ∧ B ≤ g ∧ Kd.R kRow 63 W B (fun _ => True) v rs
theorem kRow_form {W : World} {B : Nat} {v : Value} {rs : List RowG} (h : Kd.R kRow 63 W B (fun _ => True) v rs) (hp : 0 < rs.length) : ∃ g cap, v = .slice (some ⟨g, 0, none⟩) rs.length cap ∧ rs.length ≤ cap ∧ kRow.C W (some ⟨g, 0, none⟩) rs.length rs := by
  obtain ⟨g, cap, rfl, _⟩ := Kd.R_form h hp
  exact ⟨g, cap, rfl, (Kd.R_reads' h).2.1, (Kd.R_reads' h).2.2⟩

set_option maxRecDepth 100000 in
set_option maxHeartbeats 4000000 in
theorem rows_texts (g B : Nat) (rs : List RowG) (e : Int) (w : World) (h : RowsIn w B g rs e) (hn : rs.length ≤ 1000000) :
    Calls Try.prog 63 #[.pointer (some ⟨g, 0, none⟩)] w fun e w' => ∃ v, e = .returned v ∧ Aside0 (Kd.R Kd.string 9 w' w.heap.size (fun _ => True) v (rs.map (·.2))) ∧ Aside0 (Below w.heap.size w w') := by
  obtain ⟨v, hb, hg, hr⟩ := h
  obtain ⟨A, c, rfl, hc, hC⟩ := Kd.R_reads hr
  have c0 : w.cell? ⟨g, 0, none⟩ = some (.slice A rs.length c) := cell_blk hb rfl
  have HC := Aside0.mk hC
  have HRr := Aside0.mk hr
  have HB := Aside0.mk (Below.refl w.heap.size w)
  clear hb hr hC
  go_enter Try.func63, Try.ntmps63
  go_wp2_with fail
  go_loopw [3, 11] (fun o i wr => ∃ k : Nat, k ≤ rs.length ∧ i = .int .i64 k ∧ Aside0 (Kd.R Kd.string 9 wr w.heap.size (fun _ => True) o ((rs.take k).map (·.2))) ∧ Aside0 (Below w.heap.size w wr)) (fun _ i _ => rs.length - (intOf i).toNat)
  case atStart => exact ⟨0, Nat.zero_le _, rfl, ⟨Kd.R_nil _ _ _ _ _⟩, HB⟩
  case round =>
    obtain ⟨k, hk, rfl, HO, HBr⟩ := hrel
    by_cases hlt : k < rs.length
    · obtain ⟨gb, cap, hev, _⟩ := kRow_form HRr.out (by omega)
      injection hev with e1 e2 e3
      subst e1; subst e3
      clear e2
      obtain ⟨h16, hrg⟩ := at_row HC.out k hlt
      have hsn : (rs.take (k + 1)).map (·.2) = (rs.take k).map (·.2) ++ [(rs.getD k ([], ByteArray.empty)).2] := by
        rw [← List.take_append_getElem hlt, List.map_append]
        simp only [getD_get hlt]; rfl
      have HSN := Aside0.mk hsn
      clear hsn
      obtain ⟨x, hx⟩ : ∃ x, rs.getD k ([], ByteArray.empty) = x := ⟨_, rfl⟩
      rw [hx] at h16 hrg HSN
      have HRG := Aside0.mk (range_below hrg HBr.out)
      have hall := Aside0.mk (rowCells_one (x := x))
      have h16c := rowCells_text h16
      have h16d : (rowCells x).toArray[16]? = some (.string x.2) := by simpa using h16c
      have hsz := Aside0.mk (rowCells_len h16)
      clear hrg hx
      obtain ⟨Ao, co, rfl⟩ := Kd.R_slice HO.out
      have HZ : Aside0 (((rs.take k).map (·.2)).length = k) := ⟨by simp; omega⟩
      rw [HZ.out] at HO
      have h16l := Aside0.mk h16
      clear h16
      obtain ⟨C, hCe⟩ : ∃ C, rowCells x = C := ⟨_, rfl⟩
      rw [hCe] at HRG hall h16c hsz h16d
      clear hCe
      go_wp2_with (first | ((with_reducible refine gate_dst (N := 14) rfl ?_); refine wpList_load_mid rfl 63 _ rfl gb (k * 17) (by rfl) C _ HRG.out Try.underlying63 rfl (by rw [hsz.out]; kernel_rfl) ?_) | ((with_reducible refine gate_store (t := 63) (p := 5) rfl ?_); (refine wpList_store_new rfl 63 5 _ rfl rfl (b := wr.heap.size) rfl rfl (c' := C.toArray) rfl (by rw [List.size_toArray, hsz.out]; kernel_rfl) (by rw [show C.toArray.size = 17 from hsz.out]; rfl) hall.out ?_)) | (at_builtin; (refine Kd.R_append Kd.string (w0 := w) w.heap.size rfl (.tmp 15) (.tmp 18) 34 9 (.string ByteArray.empty) 16 rfl Try.underlying34 info9 rfl (by decide) (by decide) _ _ x.2 [.string x.2] (fun _ => True) (fun _ => False) rfl (congrArg (fun n => Value.slice (some ⟨n, 0, none⟩) 1 1) (show wr.heap.size + 1 = (wr.alloc (.cells C.toArray 63)).heap.size by simp)) rfl (fun _ h => h.elim) (fun _ _ => trivial) (Kd.R_alloc HO.out _) (HBr.out.alloc HBr.out.size _) (by have := HBr.out.size; simp; omega) (by rw [HZ.out]; omega) ?_; intro v3 w3 hr3 hb3 hg3 hat3; obtain ⟨A3, c3, hv3⟩ := Kd.R_slice hr3; subst hv3; have HR3 := Aside0.mk hr3; have HB3 := Aside0.mk hb3; clear hr3 hb3 hg3 hat3)))
      go_roundw
      case measure => simp [intOf]; omega
      case rel =>
        have hr3 := HR3.out
        have hz3 : ((rs.take k).map (·.2) ++ [x.2]).length = k + 1 := by rw [List.length_append, HZ.out]; rfl
        rw [hz3] at hr3
        refine ⟨k + 1, by omega, by go_num, ⟨?_⟩, HB3⟩
        rw [HSN.out]
        exact hr3
    · have hk' : k = rs.length := by omega
      subst hk'
      rw [List.take_length] at HO
      go_wp2
      go_ret
      exact ⟨_, rfl, HO, HBr⟩
end Go.Proofs.Ytnlekganlliikaa.X
