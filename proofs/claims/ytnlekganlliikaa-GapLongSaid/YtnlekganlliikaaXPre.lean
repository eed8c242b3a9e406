/-
  Own words of this session, ahead of the printed layers: a cell's fact behind draws.
-/
import Derived.Test.YtnlekganlliikaaX0
namespace Go.Proofs.Ytnlekganlliikaa.X
open Go.RowKit Go.Proofs.YtnlekganlliikaaW.PrintWords
theorem cellD {w w1 : World} {n : Nat} {a : Addr} {v : Option Value} (h : w.drewN n = w1) (hc : w.cell? a = v) : w1.cell? a = v := by
  rw [← h, ← hc]; simp
theorem frozenD {w w1 : World} {n : Nat} {a : Addr} {v : Bool} (h : w.drewN n = w1) (hc : w.frozen? a = v) : w1.frozen? a = v := by
  rw [← h, ← hc]; simp
/-- A block whose cells are numbers, as a row of one's own. -/
theorem R_int_of_cells {k : IntKind} {W : World} {g base : Nat} {e : TypeId} {xs : List Int} (h : W.heap[g]? = some (.cells (xs.map (Value.int k)).toArray e (0, 0))) (hb : base ≤ g) (hl : xs.length ≤ maxLen) :
    Kd.R (Kd.int k) e W base (fun _ => True) (.slice (some ⟨g, 0, none⟩) xs.length xs.length) xs := by
  refine ⟨fun _ _ => trivial, xs.map (Value.int k), ⟨by simp [Kd.int, Kd.scalar], .inr ⟨g, xs.length, _, rfl, hb, h, Nat.le_refl _, hl, by simp [Kd.int, Kd.scalar], by simp [Kd.int, Kd.scalar, List.take_of_length_le]⟩⟩, by simp [Kd.int, Kd.scalar], fun j p hj => ?_⟩
  obtain ⟨hl, rfl⟩ := List.getElem?_eq_some_iff.1 hj
  show ((xs.map (Value.int k)).drop (j * 1)).take 1 = [Value.int k xs[j]]
  rw [Nat.mul_one, List.drop_eq_getElem_cons (by simpa using hl)]
  simp
section
variable {P : Program} {ops : Array Oper} {rest : List Oper} {o : Oper} {a : Act} {Q : Exit → Act → World → Prop} {W : World}
/-- An operation that yields a value, the world behind it as a letter. -/
theorem event_at {v : Value} {w1 : World} (hgd : o.guard = none) (hrun : (execOp a.eval o).run P W = .ok (.value v) w1) (h : ∀ w', Aside0 (w' = w1) → wpList P ops Q rest (a.put o.dst v) w') : wpList P ops Q (o :: rest) a W :=
  Kd.event_run hgd hrun (h _ ⟨rfl⟩)
/-- A store, the world behind it as a letter. -/
theorem store_at {w1 : World} (hgd : o.guard = none) {t : TypeId} {p : Tmp} {v : Operand} (ho : o.op = .store t (.tmp p) v) (hN : o.dst = none) (hrun : (execOp a.eval o).run P W = .ok .skip w1) (h : ∀ w', Aside0 (w' = w1) → wpList P ops Q rest a w') : wpList P ops Q (o :: rest) a W :=
  store_event hgd ho hN hrun (fun w' hw => h w' ⟨hw⟩)
end
theorem cell_blk {W : World} {g j : Nat} {cs : Array Value} {t : TypeId} {v : Value} (h : W.heap[g]? = some (.cells cs t (0, 0))) (hj : cs[j]? = some v) : W.cell? ⟨g, j, none⟩ = some v := by
  rw [cell_of_row W g j cs t (0, 0) h, hj]
theorem heap_set_same {W : World} {g j : Nat} {cs : Array Value} {t : TypeId} {fr : Nat × Nat} (h : W.heap[g]? = some (.cells cs t fr)) (v : Value) : (W.setCell ⟨g, j, none⟩ v).heap[g]? = some (.cells (cs.setIfInBounds j v) t fr) := by
  have hlt : g < W.heap.size := (Array.getElem?_eq_some_iff.1 h).1
  rw [Array.getElem?_eq_getElem hlt] at h
  injection h with h
  simp [World.setCell, hlt, Array.getElem_modify, h]
theorem heap_set_other {W : World} {g g' j : Nat} (hne : g' ≠ g) (v : Value) : (W.setCell ⟨g, j, none⟩ v).heap[g']? = W.heap[g']? := Below.heap_setCell W ⟨g, j, none⟩ v g' hne
theorem cell_alloc_of {w : World} {a : Addr} {v : Value} (h : w.cell? a = some v) (o : Obj) : (w.alloc o).cell? a = some v :=
  (World.cell?_alloc_lt _ _ _ (World.block_lt_of_cell? w a h)).trans h
end Go.Proofs.Ytnlekganlliikaa.X
