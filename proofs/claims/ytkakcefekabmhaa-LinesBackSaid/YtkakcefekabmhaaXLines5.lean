/-
  strings.Index, strings.HasSuffix in the print's own form.
-/
import Derived.Test.YtkakcefekabmhaaXLines4
namespace Go.Proofs.Ytkakcefekabmhaa.X
open Go.RowKit Go.Proofs.YtkakcefekabmhaaW.PrintWords Go.Proofs.YtkakcefekabmhaaW.PrintLast Go.Proofs.YtkakcefekabmhaaW.PrintMore
set_option linter.unusedVariables false

def strings_Index.f (s sub : ByteArray) : Option Int := if sub = ⟨#[10]⟩ then some (Lib.indexByte s.data.toList 10) else none
theorem strings_Index.calls (a0 a1 : ByteArray) (r : Int) (w : World) (h : strings_Index.f a0 a1 = some r) : Calls Try.prog 42 #[.string a0, .string a1] w fun e w' => e = .returned (.int .i64 r) ∧ Drawn0 w w' := by
  unfold strings_Index.f at h
  split at h
  · rename_i e
    subst e
    have h := Option.some.inj h
    subst h
    refine (strings_Index_lf a0 w).mono ?_
    rintro e w1 ⟨rfl, he⟩
    exact ⟨rfl, he ▸ Drawn0.refl _⟩
  · cases h
def strings_HasSuffix.f (s p : ByteArray) : Option Bool := if s.size ≤ 9223372036854775807 then some (Lib.hasSuffix s.data.toList p.data.toList) else none
theorem strings_HasSuffix.calls (a0 a1 : ByteArray) (r : Bool) (w : World) (h : strings_HasSuffix.f a0 a1 = some r) : Calls Try.prog 43 #[.string a0, .string a1] w fun e w' => e = .returned (.bool r) ∧ Drawn0 w w' := by
  unfold strings_HasSuffix.f at h
  split at h
  · rename_i e
    have h := Option.some.inj h
    subst h
    refine (Try.strings_HasSuffix a0 a1 w e).mono ?_
    rintro e w1 ⟨rfl, he⟩
    exact ⟨rfl, he ▸ Drawn0.refl _⟩
  · cases h
end Go.Proofs.Ytkakcefekabmhaa.X
