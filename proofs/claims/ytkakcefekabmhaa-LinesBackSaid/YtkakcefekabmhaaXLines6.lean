/-
  strings.Join in the print's own form, at whatever address.
-/
import Derived.Test.YtkakcefekabmhaaXLines5
namespace Go.Proofs.Ytkakcefekabmhaa.X
open Go.RowKit Go.Proofs.YtkakcefekabmhaaW.PrintWords Go.Proofs.YtkakcefekabmhaaW.PrintLast Go.Proofs.YtkakcefekabmhaaW.PrintMore
set_option linter.unusedVariables false

theorem spot_of_cell {w : World} {a : Addr} {v : Value} (h : w.cell? a = some v) : a = ⟨a.block, a.off, none⟩ := by
  obtain ⟨b, o, s⟩ := a
  cases s with
  | none => rfl
  | some s =>
    exfalso
    unfold World.cell? at h
    revert h
    simp only
    split <;> simp

def strings_Join.f (l : List ByteArray) (sep : ByteArray) : Option ByteArray :=
  if l.length ≤ 140737488355328 ∧ (Lib.join (l.map (·.data.toList)) sep.data.toList).length ≤ 140737488355328 then some ⟨(Lib.join (l.map (·.data.toList)) sep.data.toList).toArray⟩ else none

theorem strings_Join.calls (A0 : Option Addr) (c0 : Nat) (l0 : List ByteArray) (a1 : ByteArray) (r : ByteArray) (w : World) (hr0 : Kd.C Kd.string w A0 l0.length l0) (hc0 : l0.length ≤ c0) (h : strings_Join.f l0 a1 = some r) :
    Calls Try.prog 44 #[.slice A0 l0.length c0, .string a1] w fun e w' => e = .returned (.string r) ∧ Below w.heap.size w w' := by
  unfold strings_Join.f at h
  split at h
  · rename_i hl
    have h := Option.some.inj h
    subst h
    by_cases h0 : l0 = []
    · subst h0
      exact (Any.strings_Join_none Try.lays156 Try.Builder_Extra_156 A0 c0 a1 w).mono fun e w' ⟨he, hw⟩ => ⟨he, hw ▸ Below.refl _ _⟩
    · have hp : 0 < l0.length := List.length_pos_iff.2 h0
      obtain ⟨ad, rfl, hc⟩ := hr0.2.2 hp
      have hcells : ∀ (j : Nat) x, l0[j]? = some x → w.cell? (ad.add j) = some (.string x) := by
        intro j x hj
        obtain ⟨c, _, e, hcell⟩ := hc j x hj
        have e : c = [.string x] := e
        subst e
        have := hcell 0 _ rfl
        rwa [show j * Kd.string.sz + 0 = j from by rw [show Kd.string.sz = 1 from rfl]; omega] at this
      have h00 := hcells 0 _ (List.getElem?_eq_getElem hp)
      have ea : ad = ⟨ad.block, ad.off, none⟩ := spot_of_cell (by simpa [Addr.add] using h00)
      rw [ea]
      refine Try.strings_Join ad.block ad.off c0 l0 a1 w (fun j x hj => ?_) (by have := World.block_lt_of_cell? _ _ h00; simpa [Addr.add] using this) hl.1 hc0 hl.2
      have := hcells j x hj
      rw [ea] at this
      unfold Addr.add at this
      split at this
      · rename_i e; subst e; simpa using this
      · exact this
  · cases h
end Go.Proofs.Ytkakcefekabmhaa.X
