/-
  Own words of this session, behind the printed base: rows read, blocks of cells, far steps.
-/
import Derived.Test.YtnlekganlliikaaXPre
namespace Go.Proofs.Ytnlekganlliikaa.X
open Go.RowKit Go.Proofs.YtnlekganlliikaaW.PrintWords Go.Proofs.YtnlekganlliikaaW.PrintLast Go.Proofs.YtnlekganlliikaaW.PrintMore
set_option linter.unusedVariables false
set_option linter.unusedSimpArgs false

/-- A block of known cells, read as a row. -/
theorem C_blk {α : Type} {d : Kd α} {W : World} {g : Nat} {t : TypeId} {fr : Nat × Nat} {xs : List α} {inner : List Value} (h : W.heap[g]? = some (.cells inner.toArray t fr)) (hr : Reps (d.K W) d.sz xs inner) (hl : xs.length ≤ 9223372036854775807) : d.C W (some ⟨g, 0, none⟩) xs.length xs := by
  refine ⟨rfl, hl, fun _ => ⟨_, rfl, fun j p hj => ⟨_, ?_, hr.2 j p hj, fun i u hu => ?_⟩⟩⟩
  · have hjl := (List.getElem?_eq_some_iff.1 hj).1
    have h1 : j * d.sz + d.sz ≤ inner.length := by rw [hr.1, ← Nat.succ_mul]; exact Nat.mul_le_mul_right _ hjl
    rw [List.length_take, List.length_drop]; omega
  · have hil := (List.getElem?_eq_some_iff.1 hu).1
    rw [List.length_take] at hil
    rw [List.getElem?_take_of_lt (by omega), List.getElem?_drop] at hu
    have : W.cell? ⟨g, j * d.sz + i, none⟩ = some u := by rw [cell_of_row W g _ _ t fr h]; simpa using hu
    obtain ⟨q, hq⟩ : ∃ q, j * d.sz + i = q := ⟨_, rfl⟩
    rw [hq] at this ⊢
    by_cases e : q = 0
    · subst e; simpa [Addr.add] using this
    · simpa [Addr.add, e] using this
/-- A step of a call that keeps the old: as seen from the law's world. -/
theorem far_ {W w w' : World} (h : Below W.heap.size W w) (hb : Below w.heap.size w w') : Below W.heap.size W w' := h.trans (hb.mono h.size)
/-- An element that is a slice. -/
theorem at_slice {α : Type} {e : Nat} {d : Kd α} {w : World} {A : Option Addr} {n : Nat} {xs : List (List α)} (h : (Kd.slice e d).C w A n xs) (i : Nat) (hi : i < n) :
    ∃ ad A0 c0, A = some ad ∧ w.cell? (ad.add i) = some (.slice A0 (xs.getD i []).length c0) ∧ (xs.getD i []).length ≤ c0 ∧ d.C w A0 (xs.getD i []).length (xs.getD i []) := by
  obtain ⟨ad, c, e1, _, ⟨A0, c0, e2, e3, e4⟩, e5⟩ := ReadsRow.get_ h [] (i : Int) (by omega) (by omega)
  rw [Int.toNat_natCast] at e2 e3 e4 e5
  subst e2
  have := e5 0 _ rfl
  rw [show i * (Kd.slice e d).sz + 0 = i from by rw [show (Kd.slice e d).sz = 1 from rfl]; omega] at this
  exact ⟨ad, A0, c0, e1, this, e3, e4⟩
theorem at_str {w : World} {A : Option Addr} {n : Nat} {xs : List ByteArray} (h : Kd.string.C w A n xs) (i : Nat) (hi : i < n) : ∃ ad, A = some ad ∧ w.cell? (ad.add i) = some (.string (xs.getD i ByteArray.empty)) := by
  obtain ⟨ad, e, hc⟩ := Kd.at_string h (i : Int) (by omega) (by omega)
  rw [Int.toNat_natCast] at hc
  refine ⟨ad, e, ?_⟩
  rw [hc, rdOf, Int.toNat_natCast]
theorem at_num {k : IntKind} {w : World} {A : Option Addr} {n : Nat} {xs : List Int} (h : (Kd.int k).C w A n xs) (i : Nat) (hi : i < n) : ∃ ad, A = some ad ∧ w.cell? (ad.add i) = some (.int k (xs.getD i 0)) := by
  obtain ⟨ad, e, hc⟩ := Kd.at_int h (i : Int) (by omega) (by omega)
  rw [Int.toNat_natCast] at hc
  refine ⟨ad, e, ?_⟩
  rw [hc, rd, Int.toNat_natCast]
theorem getD_get {α : Type} {d : α} {l : List α} {i : Nat} (h : i < l.length) : l.getD i d = l[i] := by simp [h]
theorem C_cap {α : Type} {d : Kd α} {w : World} {A : Option Addr} {n : Nat} {xs : List α} (h : d.C w A n xs) : xs.length = n := h.1
end Go.Proofs.Ytnlekganlliikaa.X
