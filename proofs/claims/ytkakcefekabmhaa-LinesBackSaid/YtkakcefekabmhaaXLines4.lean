/-
  strings.Index at a line feed; lines.Open, lines.May: by hand.
-/
import Derived.Test.YtkakcefekabmhaaXLines3
namespace Go.Proofs.Ytkakcefekabmhaa.X
open Go.RowKit Go.Proofs.YtkakcefekabmhaaW.PrintWords Go.Proofs.YtkakcefekabmhaaW.PrintLast Go.Proofs.YtkakcefekabmhaaW.PrintMore
set_option linter.unusedVariables false
set_option linter.unusedSimpArgs false

theorem slite_IndexByte (s : ByteArray) (w : World) : Calls Try.prog 64 #[.string s, .int .u8 10] w fun e w' => e = .returned (.int .i64 (Lib.indexByte s.data.toList 10)) ∧ w' = w := by
  have hx : ∀ W : World, (callFunc 74 #[.string s, .int .u8 10]).run Try.prog W = .ok (.value (.int .i64 (Lib.indexByte s.data.toList 10))) W := by
    intro W
    rw [run_callFunc_extern Try.func74 (by kernel_rfl) (by kernel_rfl) (by kernel_rfl) (e := Extern.BytealgIndexByte.indexByte) (by kernel_rfl), Lib.run_indexByteString]
    rfl
  go_enter Try.func64, Try.ntmps64
  go_wp2
  go_ret
  exact ⟨rfl, rfl⟩

set_option maxRecDepth 100000 in
theorem slite_Index (s : ByteArray) (w : World) : Calls Try.prog 52 #[.string s, .string ⟨#[10]⟩] w fun e w' => e = .returned (.int .i64 (Lib.indexByte s.data.toList 10)) ∧ w' = w := by
  obtain ⟨q, hq⟩ : ∃ q, (([10] : List UInt8) == s.toList) = q := ⟨_, rfl⟩
  cases q
  · go_enter Try.func52, Try.ntmps52
    go_wp2_with fail
    refine (slite_IndexByte s _).mono ?_
    rintro e w1 ⟨rfl, he⟩
    obtain rfl := he.symm
    clear he
    go_wp2
    go_ret
    exact ⟨rfl, rfl⟩
  · have hs : s.data.toList = [10] := by
      have := eq_of_beq hq
      rw [Lib.toList_data] at this
      exact this.symm
    have hi : Lib.indexByte s.data.toList 10 = 0 := by rw [hs]; rfl
    rw [hi]
    go_enter Try.func52, Try.ntmps52
    go_wp2_with fail
    go_ret
    exact ⟨rfl, rfl⟩

theorem strings_Index_lf (s : ByteArray) (w : World) : Calls Try.prog 42 #[.string s, .string ⟨#[10]⟩] w fun e w' => e = .returned (.int .i64 (Lib.indexByte s.data.toList 10)) ∧ w' = w := by
  go_enter Try.func42, Try.ntmps42
  go_wp2_with fail
  refine (slite_Index s _).mono ?_
  rintro e w1 ⟨rfl, he⟩
  obtain rfl := he.symm
  clear he
  go_wp2
  go_ret
  exact ⟨rfl, rfl⟩
end Go.Proofs.Ytkakcefekabmhaa.X
