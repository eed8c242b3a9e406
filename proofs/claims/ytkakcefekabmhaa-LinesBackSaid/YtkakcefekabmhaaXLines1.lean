/-
  lines.Split: by hand: the closure that cuts the lines (an iterator with a cell of its own), and the loop over it.
-/
import Derived.Test.YtkakcefekabmhaaXRange
import Derived.Test.YtkakcefekabmhaaXLinesMath
import Derived.Test.YtkakcefekabmhaaXPre
import Derived.RangeFuncBox
import Derived.Shelf.Abstract
import Derived.Shelf.RegionOpen
import Derived.WalkKit
import Derived.OwnWalkIn
import Derived.TacticsInMore
import Derived.LoopNIn
import Derived.LoopIn
import Derived.Maps.AppendAt
namespace Go.Proofs.Ytkakcefekabmhaa.X
open Go.RowKit Go.Shelf Go.Proofs.YtkakcefekabmhaaW.PrintWords Go.Proofs.YtkakcefekabmhaaW.PrintLast Go.Proofs.YtkakcefekabmhaaW.PrintMore
set_option linter.unusedVariables false
set_option linter.unusedSimpArgs false
attribute [local go_sem] Oper.semAt_some

/-- What a round is handed: a slice of bytes. -/
abbrev Cut := (Option Addr × Nat) × List Int
def cutVal (x : Cut) : Value := .slice x.1.1 x.2.length x.1.2
/-- Between two rounds: the texts so far, in the box Bo; the rest of the bytes, in the box Bn. -/
def SplitI (W0 : World) (Bn Bo : Nat) (s : List ByteArray × List Int) (W : World) : Prop :=
  Below W0.heap.size W0 W ∧ (∃ A c, Boxed W Bn 41 (.slice A s.2.length c) ∧ s.2.length ≤ c ∧ Kd.C (Kd.int .u8) W0 A s.2.length s.2) ∧
    (∃ v, Boxed W Bo 42 v ∧ W.ownsRow W0.heap.size 9 1 v s.1.length (s.1.map Value.string))
def splitOk (W0 : World) (s : List ByteArray × List Int) (x : Cut) : Prop := Kd.C (Kd.int .u8) W0 x.1.1 x.2.length x.2 ∧ s.1.length < 1000000000000
def splitStep (s : List ByteArray × List Int) (x : Cut) : List ByteArray × List Int := (s.1 ++ [strOfNums x.2], s.2)

theorem ne_of_obj {W : World} {a b : Nat} {cs : Array Value} {t : TypeId} {o : Obj} (h : W.heap[a]? = some (.cells cs t (0, 0))) (k : W.heap[b]? = some o) (ho : o.isCells = false) : a ≠ b := by
  rintro rfl
  rw [h] at k
  cases k
  cases ho

section
variable {W0 W : World} {Bn Bo : Nat} {s : List ByteArray × List Int}
theorem SplitI.put (h : SplitI W0 Bn Bo s W) {r : Nat} {o : Obj} (o' : Obj) (hr : W0.heap.size ≤ r) (hl : W.heap[r]? = some o) (ho : o.isCells = false) : SplitI W0 Bn Bo s (W.putObj r o') := by
  obtain ⟨hb, ⟨A, c, h1, h2, h3⟩, v, h4, h5⟩ := h
  refine ⟨hb.grown (grownBy_putObj' W r o') hb.size (fun k e => by cases e; exact hr), ⟨A, c, h1.kept (grownBy_putObj' W r o') (fun e => ne_of_obj h1 hl ho (Option.some.inj e)), h2, h3⟩, v,
    h4.kept (grownBy_putObj' W r o') (fun e => ne_of_obj h4 hl ho (Option.some.inj e)), ownsRow_putObj h5 o' hl ho⟩
theorem SplitI.alloc (h : SplitI W0 Bn Bo s W) (o : Obj) : SplitI W0 Bn Bo s (W.alloc o) := by
  obtain ⟨hb, ⟨A, c, h1, h2, h3⟩, v, h4, h5⟩ := h
  exact ⟨hb.alloc hb.size o, ⟨A, c, h1.alloc o, h2, h3⟩, v, h4.alloc o, h5.alloc o⟩
/-- Draws. -/
theorem SplitI.drewN (h : SplitI W0 Bn Bo s W) (m : Nat) : SplitI W0 Bn Bo s (W.drewN m) := by
  obtain ⟨hb, ⟨A, c, h1, h2, h3⟩, v, h4, h5⟩ := h
  exact ⟨hb.trans ((pw_below_drewN (Below.refl _ _) m).mono hb.size), ⟨A, c, h1, h2, h3⟩, v, h4, h5⟩
/-- The rest of the bytes is cut. -/
theorem SplitI.cut (h : SplitI W0 Bn Bo s W) (hBn : W0.heap.size ≤ Bn) {A : Option Addr} {c : Nat} {r : List Int} (hc : r.length ≤ c) (hC : Kd.C (Kd.int .u8) W0 A r.length r) (hne : Bn ≠ Bo) :
    SplitI W0 Bn Bo (s.1, r) (W.setCell ⟨Bn, 0, none⟩ (.slice A r.length c)) := by
  obtain ⟨hb, ⟨A', c', h1, h2, h3⟩, v, h4, h5⟩ := h
  exact ⟨hb.setCell hBn _, ⟨A, c, h1.set _, hc, hC⟩, v, h4.kept (grownBy_setCell' W Bn _) (fun e => hne (Option.some.inj e).symm), h5.kept (grownBy_setCell' W Bn _) (.inr (h1.not_row (by decide) h5).symm)⟩
end
end Go.Proofs.Ytkakcefekabmhaa.X
