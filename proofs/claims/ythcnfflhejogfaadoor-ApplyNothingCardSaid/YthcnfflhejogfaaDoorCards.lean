/-
  DERIVED. GIVEN WITH THE SEED: THE CARDS: each row of YthcnfflhejogfaaDoorRows.lean that lists a variable, with what it lists TIED to the program's text (the seventh form; the later family's looks); each row that meets fmt, with fmt's text TOLD by the authors' own Lean function (tested against real Go, not proved from fmt's source: count such statements apart). THE CARD IS WHAT COUNTS. Prove the row's statement (the work); the ties are given (YthcnfflhejogfaaDoorTie.lean); close each card by the builder's one call (the guide's Derived/Test/ToyasCard.lean, 'card_holds'). Laid BY PROGRAM, IN A SANDBOX (cutbox-door.mjs). By AI agents, Wed Nov 11 2026. No macro, syntax, notation, axiom, sorry.
-/
import Derived.Test.YthcnfflhejogfaaDoorRows
import GoSem.ClaimSeven
namespace Go.Proofs.YthcnfflhejogfaaDoor
namespace Rows

/-- THE TIED CARD OF 'sennitlaw23.ApplyTells'. -/
def applyTellsCard : Claim7 := { stood := { row := applyTellsRow, standIns := [], harness := (true, "db9f4797a98bcb0d5f9dda14cb4c272076cb12edf3b106cb4961e02c9afe2360"), looks := false }, kinds := [], alts := [], laidByText := true, laidKinds := [.data, .pinned], laidTests := true, laidLooks := .later }
def ApplyTellsCardSaid : Prop := Claim7.holds Tryd.pinned (.plain (OpenSpec.ofChange applyTellsSpec)) applyTellsCard

/-- THE TIED CARD OF 'sennitlaw23.ApplyMakes'. -/
def applyMakesCard : Claim7 := { stood := { row := applyMakesRow, standIns := [], harness := (true, "db9f4797a98bcb0d5f9dda14cb4c272076cb12edf3b106cb4961e02c9afe2360"), looks := false }, kinds := [], alts := [], laidByText := true, laidKinds := [.data, .pinned], laidTests := true, laidLooks := .later }
def ApplyMakesCardSaid : Prop := Claim7.holds Tryd.pinned (.plain (OpenSpec.ofChange applyMakesSpec)) applyMakesCard

/-- THE TIED CARD OF 'sennitlaw23.ApplyReturns'. -/
def applyReturnsCard : Claim7 := { stood := { row := applyReturnsRow, standIns := [], harness := (true, "db9f4797a98bcb0d5f9dda14cb4c272076cb12edf3b106cb4961e02c9afe2360"), looks := false }, kinds := [], alts := [], laidByText := true, laidKinds := [.data, .pinned], laidTests := true, laidLooks := .later }
def ApplyReturnsCardSaid : Prop := Claim7.holds Tryd.pinned (.plain (OpenSpec.ofChange applyReturnsSpec)) applyReturnsCard

/-- THE TIED CARD OF 'sennitlaw23.ApplyNothing'. -/
def applyNothingCard : Claim7 := { stood := { row := applyNothingRow, standIns := [], harness := (true, "db9f4797a98bcb0d5f9dda14cb4c272076cb12edf3b106cb4961e02c9afe2360"), looks := false }, kinds := [], alts := [], laidByText := true, laidKinds := [.data, .pinned], laidTests := true, laidLooks := .later }
def ApplyNothingCardSaid : Prop := Claim7.holds Tryd.pinned (.plain (OpenSpec.ofChange applyNothingSpec)) applyNothingCard

/-- THE TIED CARD OF 'sennitlaw23.ApplyOther'. -/
def applyOtherCard : Claim7 := { stood := { row := applyOtherRow, standIns := [], harness := (true, "db9f4797a98bcb0d5f9dda14cb4c272076cb12edf3b106cb4961e02c9afe2360"), looks := false }, kinds := [], alts := [], laidByText := true, laidKinds := [.data, .pinned], laidTests := true, laidLooks := .later }
def ApplyOtherCardSaid : Prop := Claim7.holds Tryd.pinned (.plain (OpenSpec.ofChange applyOtherSpec)) applyOtherCard

/-- THE TIED CARD OF 'sennitlaw21.HunkTells'. -/
def hunkTellsCard : Claim7 := { stood := { row := hunkTellsRow, standIns := [], harness := (true, "db9f4797a98bcb0d5f9dda14cb4c272076cb12edf3b106cb4961e02c9afe2360"), looks := false }, kinds := [], alts := [], laidByText := true, laidKinds := [.data, .pinned], laidTests := true, laidLooks := .later }
def HunkTellsCardSaid : Prop := Claim7.holds Tryd.pinned (.plain (OpenSpec.ofChange hunkTellsSpec)) hunkTellsCard

/-- THE TIED CARD OF 'sennitlaw21.HunkGroups'. -/
def hunkGroupsCard : Claim7 := { stood := { row := hunkGroupsRow, standIns := [], harness := (true, "db9f4797a98bcb0d5f9dda14cb4c272076cb12edf3b106cb4961e02c9afe2360"), looks := false }, kinds := [], alts := [], laidByText := true, laidKinds := [.data, .pinned], laidTests := true, laidLooks := .later }
def HunkGroupsCardSaid : Prop := Claim7.holds Tryd.pinned (.plain (OpenSpec.ofChange hunkGroupsSpec)) hunkGroupsCard

/-- THE TIED CARD OF 'sennitlaw21.HunkCovers'. -/
def hunkCoversCard : Claim7 := { stood := { row := hunkCoversRow, standIns := [], harness := (true, "db9f4797a98bcb0d5f9dda14cb4c272076cb12edf3b106cb4961e02c9afe2360"), looks := false }, kinds := [], alts := [], laidByText := true, laidKinds := [.data, .pinned], laidTests := true, laidLooks := .later }
def HunkCoversCardSaid : Prop := Claim7.holds Tryd.pinned (.plain (OpenSpec.ofChange hunkCoversSpec)) hunkCoversCard

/-- THE TIED CARD OF 'sennitlaw21.HunkSpans'. -/
def hunkSpansCard : Claim7 := { stood := { row := hunkSpansRow, standIns := [], harness := (true, "db9f4797a98bcb0d5f9dda14cb4c272076cb12edf3b106cb4961e02c9afe2360"), looks := false }, kinds := [], alts := [], laidByText := true, laidKinds := [.data, .pinned], laidTests := true, laidLooks := .later }
def HunkSpansCardSaid : Prop := Claim7.holds Tryd.pinned (.plain (OpenSpec.ofChange hunkSpansSpec)) hunkSpansCard

/-- THE TIED CARD OF 'sennitlaw21.HunkContext'. -/
def hunkContextCard : Claim7 := { stood := { row := hunkContextRow, standIns := [], harness := (true, "db9f4797a98bcb0d5f9dda14cb4c272076cb12edf3b106cb4961e02c9afe2360"), looks := false }, kinds := [], alts := [], laidByText := true, laidKinds := [.data, .pinned], laidTests := true, laidLooks := .later }
def HunkContextCardSaid : Prop := Claim7.holds Tryd.pinned (.plain (OpenSpec.ofChange hunkContextSpec)) hunkContextCard

/-- THE TIED CARD OF 'sennitlaw21.HunkNone'. -/
def hunkNoneCard : Claim7 := { stood := { row := hunkNoneRow, standIns := [], harness := (true, "db9f4797a98bcb0d5f9dda14cb4c272076cb12edf3b106cb4961e02c9afe2360"), looks := false }, kinds := [], alts := [], laidByText := true, laidKinds := [.data, .pinned], laidTests := true, laidLooks := .later }
def HunkNoneCardSaid : Prop := Claim7.holds Tryd.pinned (.plain (OpenSpec.ofChange hunkNoneSpec)) hunkNoneCard

/-- THE SECOND FORM's CARD OF 'sennitlaw23.ApplyTells'. -/
def applyTellsUptoCard : Claim7 := { stood := { row := applyTellsUptoRow, standIns := [], harness := (true, "db9f4797a98bcb0d5f9dda14cb4c272076cb12edf3b106cb4961e02c9afe2360"), looks := false }, kinds := [], alts := [], laidByText := true, laidKinds := [.data, .pinned], laidTests := true, laidLooks := .later }
def ApplyTellsUptoCardSaid : Prop := Claim7.holds Tryd.pinned (.plain (OpenSpec.upto applyTellsSpec)) applyTellsUptoCard

/-- THE SECOND FORM's CARD OF 'sennitlaw23.ApplyMakes'. -/
def applyMakesUptoCard : Claim7 := { stood := { row := applyMakesUptoRow, standIns := [], harness := (true, "db9f4797a98bcb0d5f9dda14cb4c272076cb12edf3b106cb4961e02c9afe2360"), looks := false }, kinds := [], alts := [], laidByText := true, laidKinds := [.data, .pinned], laidTests := true, laidLooks := .later }
def ApplyMakesUptoCardSaid : Prop := Claim7.holds Tryd.pinned (.plain (OpenSpec.upto applyMakesSpec)) applyMakesUptoCard

/-- THE SECOND FORM's CARD OF 'sennitlaw23.ApplyReturns'. -/
def applyReturnsUptoCard : Claim7 := { stood := { row := applyReturnsUptoRow, standIns := [], harness := (true, "db9f4797a98bcb0d5f9dda14cb4c272076cb12edf3b106cb4961e02c9afe2360"), looks := false }, kinds := [], alts := [], laidByText := true, laidKinds := [.data, .pinned], laidTests := true, laidLooks := .later }
def ApplyReturnsUptoCardSaid : Prop := Claim7.holds Tryd.pinned (.plain (OpenSpec.upto applyReturnsSpec)) applyReturnsUptoCard

/-- THE SECOND FORM's CARD OF 'sennitlaw23.ApplyNothing'. -/
def applyNothingUptoCard : Claim7 := { stood := { row := applyNothingUptoRow, standIns := [], harness := (true, "db9f4797a98bcb0d5f9dda14cb4c272076cb12edf3b106cb4961e02c9afe2360"), looks := false }, kinds := [], alts := [], laidByText := true, laidKinds := [.data, .pinned], laidTests := true, laidLooks := .later }
def ApplyNothingUptoCardSaid : Prop := Claim7.holds Tryd.pinned (.plain (OpenSpec.upto applyNothingSpec)) applyNothingUptoCard

/-- THE SECOND FORM's CARD OF 'sennitlaw23.ApplyOther'. -/
def applyOtherUptoCard : Claim7 := { stood := { row := applyOtherUptoRow, standIns := [], harness := (true, "db9f4797a98bcb0d5f9dda14cb4c272076cb12edf3b106cb4961e02c9afe2360"), looks := false }, kinds := [], alts := [], laidByText := true, laidKinds := [.data, .pinned], laidTests := true, laidLooks := .later }
def ApplyOtherUptoCardSaid : Prop := Claim7.holds Tryd.pinned (.plain (OpenSpec.upto applyOtherSpec)) applyOtherUptoCard

/-- THE SECOND FORM's CARD OF 'sennitlaw21.HunkTells'. -/
def hunkTellsUptoCard : Claim7 := { stood := { row := hunkTellsUptoRow, standIns := [], harness := (true, "db9f4797a98bcb0d5f9dda14cb4c272076cb12edf3b106cb4961e02c9afe2360"), looks := false }, kinds := [], alts := [], laidByText := true, laidKinds := [.data, .pinned], laidTests := true, laidLooks := .later }
def HunkTellsUptoCardSaid : Prop := Claim7.holds Tryd.pinned (.plain (OpenSpec.upto hunkTellsSpec)) hunkTellsUptoCard

/-- THE SECOND FORM's CARD OF 'sennitlaw21.HunkGroups'. -/
def hunkGroupsUptoCard : Claim7 := { stood := { row := hunkGroupsUptoRow, standIns := [], harness := (true, "db9f4797a98bcb0d5f9dda14cb4c272076cb12edf3b106cb4961e02c9afe2360"), looks := false }, kinds := [], alts := [], laidByText := true, laidKinds := [.data, .pinned], laidTests := true, laidLooks := .later }
def HunkGroupsUptoCardSaid : Prop := Claim7.holds Tryd.pinned (.plain (OpenSpec.upto hunkGroupsSpec)) hunkGroupsUptoCard

/-- THE SECOND FORM's CARD OF 'sennitlaw21.HunkCovers'. -/
def hunkCoversUptoCard : Claim7 := { stood := { row := hunkCoversUptoRow, standIns := [], harness := (true, "db9f4797a98bcb0d5f9dda14cb4c272076cb12edf3b106cb4961e02c9afe2360"), looks := false }, kinds := [], alts := [], laidByText := true, laidKinds := [.data, .pinned], laidTests := true, laidLooks := .later }
def HunkCoversUptoCardSaid : Prop := Claim7.holds Tryd.pinned (.plain (OpenSpec.upto hunkCoversSpec)) hunkCoversUptoCard

/-- THE SECOND FORM's CARD OF 'sennitlaw21.HunkSpans'. -/
def hunkSpansUptoCard : Claim7 := { stood := { row := hunkSpansUptoRow, standIns := [], harness := (true, "db9f4797a98bcb0d5f9dda14cb4c272076cb12edf3b106cb4961e02c9afe2360"), looks := false }, kinds := [], alts := [], laidByText := true, laidKinds := [.data, .pinned], laidTests := true, laidLooks := .later }
def HunkSpansUptoCardSaid : Prop := Claim7.holds Tryd.pinned (.plain (OpenSpec.upto hunkSpansSpec)) hunkSpansUptoCard

/-- THE SECOND FORM's CARD OF 'sennitlaw21.HunkContext'. -/
def hunkContextUptoCard : Claim7 := { stood := { row := hunkContextUptoRow, standIns := [], harness := (true, "db9f4797a98bcb0d5f9dda14cb4c272076cb12edf3b106cb4961e02c9afe2360"), looks := false }, kinds := [], alts := [], laidByText := true, laidKinds := [.data, .pinned], laidTests := true, laidLooks := .later }
def HunkContextUptoCardSaid : Prop := Claim7.holds Tryd.pinned (.plain (OpenSpec.upto hunkContextSpec)) hunkContextUptoCard

/-- THE SECOND FORM's CARD OF 'sennitlaw21.HunkNone'. -/
def hunkNoneUptoCard : Claim7 := { stood := { row := hunkNoneUptoRow, standIns := [], harness := (true, "db9f4797a98bcb0d5f9dda14cb4c272076cb12edf3b106cb4961e02c9afe2360"), looks := false }, kinds := [], alts := [], laidByText := true, laidKinds := [.data, .pinned], laidTests := true, laidLooks := .later }
def HunkNoneUptoCardSaid : Prop := Claim7.holds Tryd.pinned (.plain (OpenSpec.upto hunkNoneSpec)) hunkNoneUptoCard
end Rows
end Go.Proofs.YthcnfflhejogfaaDoor
