/-
  NARROWER THAN 'FOR EVERY INPUT', by the rows' own cells (each row's printed sentence says how): ApplyTells: laid · ApplyMakes: laid · ApplyReturns: laid · ApplyNothing: laid · ApplyOther: laid · HunkTells: laid · HunkGroups: laid · HunkCovers: laid · HunkSpans: laid · HunkContext: laid · HunkNone: laid.
  DERIVED. THE GIVEN ROWS OF THIS SEAT. 11 by the template 'for every input the law returns true; each argument reads behind the call as it read before'; 0 by the template 'total and deterministic' (their statements: YthcnfflhejogfaaDoorTotals.lean).
  GIVEN WITH THE SEED: the statements are not yours to turn. If you find one false, say at which input.
  Laid BY PROGRAM, IN A SANDBOX (cutbox-rows.mjs): the forced cells as the released guide's own fill.sh prints them over the translation 06bb991a972d23ab… (all of the seat's roots in one cut). By AI agents, Wed Nov 11 2026. No macro, syntax, notation, axiom, sorry.
-/
import Derived.Test.YthcnfflhejogfaaDoorChecked
import GoSem.PinnedTables
import GoSem.Claim
import GoSem.ClaimJoined
import GoSem.ClaimMapViews
import Derived.JoinedTies
import Derived.KernelRfl
namespace Go.Proofs.YthcnfflhejogfaaDoor
/- THE CELL 'sum', in the pinned program and in every row, IS THE sha256 OF THE DUMP (.gsa) THAT YthcnfflhejogfaaDoorProg.lean LOADS. Nothing in Lean hashes anything: it is a label: what it is worth is what the hold of that sum in a sandbox is worth. -/
noncomputable def Tryd.pinned : Pinned := { name := "ythcnfflhejogfaadoor", sum := "06bb991a972d23ab676a628568de67104cda432f9ee3d6afeaf83c3b0dc209f0", checked := Tryd.checked }
namespace Rows
def none {H : Type} : Left H := { results := [], args := [] }

/- WHAT THE LISTED PACKAGE-LEVEL VARIABLES READ AS WHEN THE CALL BEGINS. Each datum BY PROGRAM (the guide's laid-datum.mjs) off the statement by which the dump's own 'gosem.cut.vars' lays the variable. In a bare row this is a premise. The card (YthcnfflhejogfaaDoorCards.lean) ties it to the program's text. -/
def laid_unicode_utf8_acceptRanges {H : Type} : DataW H := .agg [.agg [.lit (.int .u8 128), .lit (.int .u8 191)], .agg [.lit (.int .u8 160), .lit (.int .u8 191)], .agg [.lit (.int .u8 128), .lit (.int .u8 159)], .agg [.lit (.int .u8 144), .lit (.int .u8 191)], .agg [.lit (.int .u8 128), .lit (.int .u8 143)], .agg [.lit (.int .u8 0), .lit (.int .u8 0)], .agg [.lit (.int .u8 0), .lit (.int .u8 0)], .agg [.lit (.int .u8 0), .lit (.int .u8 0)], .agg [.lit (.int .u8 0), .lit (.int .u8 0)], .agg [.lit (.int .u8 0), .lit (.int .u8 0)], .agg [.lit (.int .u8 0), .lit (.int .u8 0)], .agg [.lit (.int .u8 0), .lit (.int .u8 0)], .agg [.lit (.int .u8 0), .lit (.int .u8 0)], .agg [.lit (.int .u8 0), .lit (.int .u8 0)], .agg [.lit (.int .u8 0), .lit (.int .u8 0)], .agg [.lit (.int .u8 0), .lit (.int .u8 0)]]
/-- One of Go's own tables, pinned by name: the form's constant. -/
def laid_unicode_utf8_first : DataW Unit := Go.Pinned.utf8First

/-- 'sennitlaw23.ApplyTells': WHATEVER THE INPUT: true; the input reads as it did. -/
def applyTellsSpec : ChangeSpec := { name := "applyTells", fn := fun _ => fun
  | [d1, d2, d3] => { results := [.lit (.bool true)], args := [d1, d2, d3] }
  | _ => none }
def applyTellsRow : OpenClaim := { program := "ythcnfflhejogfaadoor", sum := "06bb991a972d23ab676a628568de67104cda432f9ee3d6afeaf83c3b0dc209f0", func := "sennit/sennitlaw23.ApplyTells", spec := "applyTells", inPlace := ["internal/bytealg.IndexByteString", "internal/bytealg.IndexString"], unfollowed := true, recurses := true, named := ["internal/bytealg.MaxLen", "unicode/utf8.first", "unicode/utf8.acceptRanges"], apart := false, laid := [("unicode/utf8.acceptRanges", laid_unicode_utf8_acceptRanges), ("unicode/utf8.first", laid_unicode_utf8_first)] }
def ApplyTellsSaid : Prop := applyTellsRow.holds Tryd.pinned (OpenSpec.ofChange applyTellsSpec)

/-- ITS FALSE NEIGHBOUR: 'it returns false'. Refute it at one input. -/
def applyTellsWrong : ChangeSpec := { name := "applyTells", fn := fun _ => fun
  | [d1, d2, d3] => { results := [.lit (.bool false)], args := [d1, d2, d3] }
  | _ => none }
def ApplyTellsWrongFalsely : Prop := applyTellsRow.holds Tryd.pinned (OpenSpec.ofChange applyTellsWrong)

/-- 'sennitlaw23.ApplyMakes': WHATEVER THE INPUT: true; the input reads as it did. -/
def applyMakesSpec : ChangeSpec := { name := "applyMakes", fn := fun _ => fun
  | [d1, d2, d3] => { results := [.lit (.bool true)], args := [d1, d2, d3] }
  | _ => none }
def applyMakesRow : OpenClaim := { program := "ythcnfflhejogfaadoor", sum := "06bb991a972d23ab676a628568de67104cda432f9ee3d6afeaf83c3b0dc209f0", func := "sennit/sennitlaw23.ApplyMakes", spec := "applyMakes", inPlace := ["internal/bytealg.IndexByteString", "internal/bytealg.IndexString"], unfollowed := true, recurses := true, named := ["internal/bytealg.MaxLen", "unicode/utf8.first", "unicode/utf8.acceptRanges"], apart := false, laid := [("unicode/utf8.acceptRanges", laid_unicode_utf8_acceptRanges), ("unicode/utf8.first", laid_unicode_utf8_first)] }
def ApplyMakesSaid : Prop := applyMakesRow.holds Tryd.pinned (OpenSpec.ofChange applyMakesSpec)

/-- ITS FALSE NEIGHBOUR: 'it returns false'. Refute it at one input. -/
def applyMakesWrong : ChangeSpec := { name := "applyMakes", fn := fun _ => fun
  | [d1, d2, d3] => { results := [.lit (.bool false)], args := [d1, d2, d3] }
  | _ => none }
def ApplyMakesWrongFalsely : Prop := applyMakesRow.holds Tryd.pinned (OpenSpec.ofChange applyMakesWrong)

/-- 'sennitlaw23.ApplyReturns': WHATEVER THE INPUT: true; the input reads as it did. -/
def applyReturnsSpec : ChangeSpec := { name := "applyReturns", fn := fun _ => fun
  | [d1, d2, d3] => { results := [.lit (.bool true)], args := [d1, d2, d3] }
  | _ => none }
def applyReturnsRow : OpenClaim := { program := "ythcnfflhejogfaadoor", sum := "06bb991a972d23ab676a628568de67104cda432f9ee3d6afeaf83c3b0dc209f0", func := "sennit/sennitlaw23.ApplyReturns", spec := "applyReturns", inPlace := ["internal/bytealg.IndexByteString", "internal/bytealg.IndexString"], unfollowed := true, recurses := true, named := ["internal/bytealg.MaxLen", "unicode/utf8.first", "unicode/utf8.acceptRanges"], apart := false, laid := [("unicode/utf8.acceptRanges", laid_unicode_utf8_acceptRanges), ("unicode/utf8.first", laid_unicode_utf8_first)] }
def ApplyReturnsSaid : Prop := applyReturnsRow.holds Tryd.pinned (OpenSpec.ofChange applyReturnsSpec)

/-- ITS FALSE NEIGHBOUR: 'it returns false'. Refute it at one input. -/
def applyReturnsWrong : ChangeSpec := { name := "applyReturns", fn := fun _ => fun
  | [d1, d2, d3] => { results := [.lit (.bool false)], args := [d1, d2, d3] }
  | _ => none }
def ApplyReturnsWrongFalsely : Prop := applyReturnsRow.holds Tryd.pinned (OpenSpec.ofChange applyReturnsWrong)

/-- 'sennitlaw23.ApplyNothing': WHATEVER THE INPUT: true; the input reads as it did. -/
def applyNothingSpec : ChangeSpec := { name := "applyNothing", fn := fun _ => fun
  | [d1, d2, d3] => { results := [.lit (.bool true)], args := [d1, d2, d3] }
  | _ => none }
def applyNothingRow : OpenClaim := { program := "ythcnfflhejogfaadoor", sum := "06bb991a972d23ab676a628568de67104cda432f9ee3d6afeaf83c3b0dc209f0", func := "sennit/sennitlaw23.ApplyNothing", spec := "applyNothing", inPlace := ["internal/bytealg.IndexByteString", "internal/bytealg.IndexString"], unfollowed := true, recurses := true, named := ["internal/bytealg.MaxLen", "unicode/utf8.first", "unicode/utf8.acceptRanges"], apart := false, laid := [("unicode/utf8.acceptRanges", laid_unicode_utf8_acceptRanges), ("unicode/utf8.first", laid_unicode_utf8_first)] }
def ApplyNothingSaid : Prop := applyNothingRow.holds Tryd.pinned (OpenSpec.ofChange applyNothingSpec)

/-- ITS FALSE NEIGHBOUR: 'it returns false'. Refute it at one input. -/
def applyNothingWrong : ChangeSpec := { name := "applyNothing", fn := fun _ => fun
  | [d1, d2, d3] => { results := [.lit (.bool false)], args := [d1, d2, d3] }
  | _ => none }
def ApplyNothingWrongFalsely : Prop := applyNothingRow.holds Tryd.pinned (OpenSpec.ofChange applyNothingWrong)

/-- 'sennitlaw23.ApplyOther': WHATEVER THE INPUT: true; the input reads as it did. -/
def applyOtherSpec : ChangeSpec := { name := "applyOther", fn := fun _ => fun
  | [d1, d2, d3] => { results := [.lit (.bool true)], args := [d1, d2, d3] }
  | _ => none }
def applyOtherRow : OpenClaim := { program := "ythcnfflhejogfaadoor", sum := "06bb991a972d23ab676a628568de67104cda432f9ee3d6afeaf83c3b0dc209f0", func := "sennit/sennitlaw23.ApplyOther", spec := "applyOther", inPlace := ["internal/bytealg.IndexByteString", "internal/bytealg.IndexString"], unfollowed := true, recurses := true, named := ["internal/bytealg.MaxLen", "unicode/utf8.first", "unicode/utf8.acceptRanges"], apart := false, laid := [("unicode/utf8.acceptRanges", laid_unicode_utf8_acceptRanges), ("unicode/utf8.first", laid_unicode_utf8_first)] }
def ApplyOtherSaid : Prop := applyOtherRow.holds Tryd.pinned (OpenSpec.ofChange applyOtherSpec)

/-- ITS FALSE NEIGHBOUR: 'it returns false'. Refute it at one input. -/
def applyOtherWrong : ChangeSpec := { name := "applyOther", fn := fun _ => fun
  | [d1, d2, d3] => { results := [.lit (.bool false)], args := [d1, d2, d3] }
  | _ => none }
def ApplyOtherWrongFalsely : Prop := applyOtherRow.holds Tryd.pinned (OpenSpec.ofChange applyOtherWrong)

/-- 'sennitlaw21.HunkTells': WHATEVER THE INPUT: true; the input reads as it did. -/
def hunkTellsSpec : ChangeSpec := { name := "hunkTells", fn := fun _ => fun
  | [d1, d2, d3] => { results := [.lit (.bool true)], args := [d1, d2, d3] }
  | _ => none }
def hunkTellsRow : OpenClaim := { program := "ythcnfflhejogfaadoor", sum := "06bb991a972d23ab676a628568de67104cda432f9ee3d6afeaf83c3b0dc209f0", func := "sennit/sennitlaw21.HunkTells", spec := "hunkTells", inPlace := ["internal/bytealg.IndexByteString", "internal/bytealg.IndexString", "internal/bytealg.CountString", "internal/abi.NoEscape", "internal/bytealg.MakeNoZero"], unfollowed := true, recurses := true, named := ["unicode/utf8.first", "unicode/utf8.acceptRanges", "internal/bytealg.MaxLen"], apart := false, laid := [("unicode/utf8.acceptRanges", laid_unicode_utf8_acceptRanges), ("unicode/utf8.first", laid_unicode_utf8_first)] }
def HunkTellsSaid : Prop := hunkTellsRow.holds Tryd.pinned (OpenSpec.ofChange hunkTellsSpec)

/-- ITS FALSE NEIGHBOUR: 'it returns false'. Refute it at one input. -/
def hunkTellsWrong : ChangeSpec := { name := "hunkTells", fn := fun _ => fun
  | [d1, d2, d3] => { results := [.lit (.bool false)], args := [d1, d2, d3] }
  | _ => none }
def HunkTellsWrongFalsely : Prop := hunkTellsRow.holds Tryd.pinned (OpenSpec.ofChange hunkTellsWrong)

/-- 'sennitlaw21.HunkGroups': WHATEVER THE INPUT: true; the input reads as it did. -/
def hunkGroupsSpec : ChangeSpec := { name := "hunkGroups", fn := fun _ => fun
  | [d] => { results := [.lit (.bool true)], args := [d] }
  | _ => none }
def hunkGroupsRow : OpenClaim := { program := "ythcnfflhejogfaadoor", sum := "06bb991a972d23ab676a628568de67104cda432f9ee3d6afeaf83c3b0dc209f0", func := "sennit/sennitlaw21.HunkGroups", spec := "hunkGroups", inPlace := ["internal/bytealg.IndexByteString", "internal/bytealg.IndexString", "internal/bytealg.CountString", "internal/abi.NoEscape", "internal/bytealg.MakeNoZero"], unfollowed := true, recurses := true, named := ["unicode/utf8.first", "unicode/utf8.acceptRanges", "internal/bytealg.MaxLen"], apart := false, laid := [("unicode/utf8.acceptRanges", laid_unicode_utf8_acceptRanges), ("unicode/utf8.first", laid_unicode_utf8_first)] }
def HunkGroupsSaid : Prop := hunkGroupsRow.holds Tryd.pinned (OpenSpec.ofChange hunkGroupsSpec)

/-- ITS FALSE NEIGHBOUR: 'it returns false'. Refute it at one input. -/
def hunkGroupsWrong : ChangeSpec := { name := "hunkGroups", fn := fun _ => fun
  | [d] => { results := [.lit (.bool false)], args := [d] }
  | _ => none }
def HunkGroupsWrongFalsely : Prop := hunkGroupsRow.holds Tryd.pinned (OpenSpec.ofChange hunkGroupsWrong)

/-- 'sennitlaw21.HunkCovers': WHATEVER THE INPUT: true; the input reads as it did. -/
def hunkCoversSpec : ChangeSpec := { name := "hunkCovers", fn := fun _ => fun
  | [d1, d2, d3] => { results := [.lit (.bool true)], args := [d1, d2, d3] }
  | _ => none }
def hunkCoversRow : OpenClaim := { program := "ythcnfflhejogfaadoor", sum := "06bb991a972d23ab676a628568de67104cda432f9ee3d6afeaf83c3b0dc209f0", func := "sennit/sennitlaw21.HunkCovers", spec := "hunkCovers", inPlace := ["internal/bytealg.IndexByteString", "internal/bytealg.IndexString", "internal/bytealg.CountString", "internal/abi.NoEscape", "internal/bytealg.MakeNoZero"], unfollowed := true, recurses := true, named := ["unicode/utf8.first", "unicode/utf8.acceptRanges", "internal/bytealg.MaxLen"], apart := false, laid := [("unicode/utf8.acceptRanges", laid_unicode_utf8_acceptRanges), ("unicode/utf8.first", laid_unicode_utf8_first)] }
def HunkCoversSaid : Prop := hunkCoversRow.holds Tryd.pinned (OpenSpec.ofChange hunkCoversSpec)

/-- ITS FALSE NEIGHBOUR: 'it returns false'. Refute it at one input. -/
def hunkCoversWrong : ChangeSpec := { name := "hunkCovers", fn := fun _ => fun
  | [d1, d2, d3] => { results := [.lit (.bool false)], args := [d1, d2, d3] }
  | _ => none }
def HunkCoversWrongFalsely : Prop := hunkCoversRow.holds Tryd.pinned (OpenSpec.ofChange hunkCoversWrong)

/-- 'sennitlaw21.HunkSpans': WHATEVER THE INPUT: true; the input reads as it did. -/
def hunkSpansSpec : ChangeSpec := { name := "hunkSpans", fn := fun _ => fun
  | [d1, d2, d3] => { results := [.lit (.bool true)], args := [d1, d2, d3] }
  | _ => none }
def hunkSpansRow : OpenClaim := { program := "ythcnfflhejogfaadoor", sum := "06bb991a972d23ab676a628568de67104cda432f9ee3d6afeaf83c3b0dc209f0", func := "sennit/sennitlaw21.HunkSpans", spec := "hunkSpans", inPlace := ["internal/bytealg.IndexByteString", "internal/bytealg.IndexString", "internal/bytealg.CountString", "internal/abi.NoEscape", "internal/bytealg.MakeNoZero"], unfollowed := true, recurses := true, named := ["unicode/utf8.first", "unicode/utf8.acceptRanges", "internal/bytealg.MaxLen"], apart := false, laid := [("unicode/utf8.acceptRanges", laid_unicode_utf8_acceptRanges), ("unicode/utf8.first", laid_unicode_utf8_first)] }
def HunkSpansSaid : Prop := hunkSpansRow.holds Tryd.pinned (OpenSpec.ofChange hunkSpansSpec)

/-- ITS FALSE NEIGHBOUR: 'it returns false'. Refute it at one input. -/
def hunkSpansWrong : ChangeSpec := { name := "hunkSpans", fn := fun _ => fun
  | [d1, d2, d3] => { results := [.lit (.bool false)], args := [d1, d2, d3] }
  | _ => none }
def HunkSpansWrongFalsely : Prop := hunkSpansRow.holds Tryd.pinned (OpenSpec.ofChange hunkSpansWrong)

/-- 'sennitlaw21.HunkContext': WHATEVER THE INPUT: true; the input reads as it did. -/
def hunkContextSpec : ChangeSpec := { name := "hunkContext", fn := fun _ => fun
  | [d1, d2, d3] => { results := [.lit (.bool true)], args := [d1, d2, d3] }
  | _ => none }
def hunkContextRow : OpenClaim := { program := "ythcnfflhejogfaadoor", sum := "06bb991a972d23ab676a628568de67104cda432f9ee3d6afeaf83c3b0dc209f0", func := "sennit/sennitlaw21.HunkContext", spec := "hunkContext", inPlace := ["internal/bytealg.IndexByteString", "internal/bytealg.IndexString", "internal/bytealg.CountString", "internal/abi.NoEscape", "internal/bytealg.MakeNoZero"], unfollowed := true, recurses := true, named := ["unicode/utf8.first", "unicode/utf8.acceptRanges", "internal/bytealg.MaxLen"], apart := false, laid := [("unicode/utf8.acceptRanges", laid_unicode_utf8_acceptRanges), ("unicode/utf8.first", laid_unicode_utf8_first)] }
def HunkContextSaid : Prop := hunkContextRow.holds Tryd.pinned (OpenSpec.ofChange hunkContextSpec)

/-- ITS FALSE NEIGHBOUR: 'it returns false'. Refute it at one input. -/
def hunkContextWrong : ChangeSpec := { name := "hunkContext", fn := fun _ => fun
  | [d1, d2, d3] => { results := [.lit (.bool false)], args := [d1, d2, d3] }
  | _ => none }
def HunkContextWrongFalsely : Prop := hunkContextRow.holds Tryd.pinned (OpenSpec.ofChange hunkContextWrong)

/-- 'sennitlaw21.HunkNone': WHATEVER THE INPUT: true; the input reads as it did. -/
def hunkNoneSpec : ChangeSpec := { name := "hunkNone", fn := fun _ => fun
  | [d1, d2] => { results := [.lit (.bool true)], args := [d1, d2] }
  | _ => none }
def hunkNoneRow : OpenClaim := { program := "ythcnfflhejogfaadoor", sum := "06bb991a972d23ab676a628568de67104cda432f9ee3d6afeaf83c3b0dc209f0", func := "sennit/sennitlaw21.HunkNone", spec := "hunkNone", inPlace := ["internal/bytealg.IndexByteString", "internal/bytealg.IndexString", "internal/bytealg.CountString", "internal/abi.NoEscape", "internal/bytealg.MakeNoZero"], unfollowed := true, recurses := true, named := ["unicode/utf8.first", "unicode/utf8.acceptRanges", "internal/bytealg.MaxLen"], apart := false, laid := [("unicode/utf8.acceptRanges", laid_unicode_utf8_acceptRanges), ("unicode/utf8.first", laid_unicode_utf8_first)] }
def HunkNoneSaid : Prop := hunkNoneRow.holds Tryd.pinned (OpenSpec.ofChange hunkNoneSpec)

/-- ITS FALSE NEIGHBOUR: 'it returns false'. Refute it at one input. -/
def hunkNoneWrong : ChangeSpec := { name := "hunkNone", fn := fun _ => fun
  | [d1, d2] => { results := [.lit (.bool false)], args := [d1, d2] }
  | _ => none }
def HunkNoneWrongFalsely : Prop := hunkNoneRow.holds Tryd.pinned (OpenSpec.ofChange hunkNoneWrong)

/- THE SECOND FORM. 'bulk': how many values and letters a reading holds, each counted each time it is reached (what is shared counts as often as it is met; a slice's spare places count too). A statement '..UptoSaid' is the law's where the arguments, and the package variables that the reading takes, are together of bulk at most 1048576: NARROWER than '..Said'. Prove '..Said' where nothing that the law and all that it calls make is longer than what came in: it says more and counts as full. Else prove '..UptoSaid'. A law counts once. -/
mutual
def uptoBulk {H : Type} : DataW H → Nat
  | .lit (.string bytes) => bytes.length + 1
  | .lit _ => 1
  | .nil => 1
  | .ptr d => uptoBulk d + 1
  | .slice elems spare => uptoBulkAll elems + uptoBulkAll spare + 1
  | .agg parts => uptoBulkAll parts + 1
  | .iface _ d => uptoBulk d + 1
  | .map entries => uptoBulkEntries entries + 1
  | .held _ => 1
def uptoBulkAll {H : Type} : List (DataW H) → Nat
  | [] => 0
  | d :: r => uptoBulk d + uptoBulkAll r
def uptoBulkEntries {H : Type} : List (Lit × DataW H) → Nat
  | [] => 0
  | x :: r => uptoBulkEntry x + uptoBulkEntries r
def uptoBulkEntry {H : Type} : Lit × DataW H → Nat
  | (.string bytes, d) => bytes.length + uptoBulk d + 1
  | (_, d) => uptoBulk d + 1
 end
def uptoSmall : (H : Type) → List (DataW H) → Bool := fun _ ds => decide (uptoBulkAll ds ≤ 1048576)
def OpenSpec.upto (s : _root_.Go.ChangeSpec) : _root_.Go.OpenSpec := { _root_.Go.OpenSpec.ofChange s with cond := some uptoSmall }

/-- 'sennitlaw23.ApplyTells', WHERE WHAT IT READS IS OF BULK AT MOST 1048576: true; the input reads as it did. -/
def applyTellsUptoRow : OpenClaim := { program := "ythcnfflhejogfaadoor", sum := "06bb991a972d23ab676a628568de67104cda432f9ee3d6afeaf83c3b0dc209f0", func := "sennit/sennitlaw23.ApplyTells", spec := "applyTells", inPlace := ["internal/bytealg.IndexByteString", "internal/bytealg.IndexString"], unfollowed := true, recurses := true, named := ["internal/bytealg.MaxLen", "unicode/utf8.first", "unicode/utf8.acceptRanges"], apart := false, laid := [("unicode/utf8.acceptRanges", laid_unicode_utf8_acceptRanges), ("unicode/utf8.first", laid_unicode_utf8_first)], narrowed := true }
def ApplyTellsUptoSaid : Prop := applyTellsUptoRow.holds Tryd.pinned (OpenSpec.upto applyTellsSpec)

/-- 'sennitlaw23.ApplyMakes', WHERE WHAT IT READS IS OF BULK AT MOST 1048576: true; the input reads as it did. -/
def applyMakesUptoRow : OpenClaim := { program := "ythcnfflhejogfaadoor", sum := "06bb991a972d23ab676a628568de67104cda432f9ee3d6afeaf83c3b0dc209f0", func := "sennit/sennitlaw23.ApplyMakes", spec := "applyMakes", inPlace := ["internal/bytealg.IndexByteString", "internal/bytealg.IndexString"], unfollowed := true, recurses := true, named := ["internal/bytealg.MaxLen", "unicode/utf8.first", "unicode/utf8.acceptRanges"], apart := false, laid := [("unicode/utf8.acceptRanges", laid_unicode_utf8_acceptRanges), ("unicode/utf8.first", laid_unicode_utf8_first)], narrowed := true }
def ApplyMakesUptoSaid : Prop := applyMakesUptoRow.holds Tryd.pinned (OpenSpec.upto applyMakesSpec)

/-- 'sennitlaw23.ApplyReturns', WHERE WHAT IT READS IS OF BULK AT MOST 1048576: true; the input reads as it did. -/
def applyReturnsUptoRow : OpenClaim := { program := "ythcnfflhejogfaadoor", sum := "06bb991a972d23ab676a628568de67104cda432f9ee3d6afeaf83c3b0dc209f0", func := "sennit/sennitlaw23.ApplyReturns", spec := "applyReturns", inPlace := ["internal/bytealg.IndexByteString", "internal/bytealg.IndexString"], unfollowed := true, recurses := true, named := ["internal/bytealg.MaxLen", "unicode/utf8.first", "unicode/utf8.acceptRanges"], apart := false, laid := [("unicode/utf8.acceptRanges", laid_unicode_utf8_acceptRanges), ("unicode/utf8.first", laid_unicode_utf8_first)], narrowed := true }
def ApplyReturnsUptoSaid : Prop := applyReturnsUptoRow.holds Tryd.pinned (OpenSpec.upto applyReturnsSpec)

/-- 'sennitlaw23.ApplyNothing', WHERE WHAT IT READS IS OF BULK AT MOST 1048576: true; the input reads as it did. -/
def applyNothingUptoRow : OpenClaim := { program := "ythcnfflhejogfaadoor", sum := "06bb991a972d23ab676a628568de67104cda432f9ee3d6afeaf83c3b0dc209f0", func := "sennit/sennitlaw23.ApplyNothing", spec := "applyNothing", inPlace := ["internal/bytealg.IndexByteString", "internal/bytealg.IndexString"], unfollowed := true, recurses := true, named := ["internal/bytealg.MaxLen", "unicode/utf8.first", "unicode/utf8.acceptRanges"], apart := false, laid := [("unicode/utf8.acceptRanges", laid_unicode_utf8_acceptRanges), ("unicode/utf8.first", laid_unicode_utf8_first)], narrowed := true }
def ApplyNothingUptoSaid : Prop := applyNothingUptoRow.holds Tryd.pinned (OpenSpec.upto applyNothingSpec)

/-- 'sennitlaw23.ApplyOther', WHERE WHAT IT READS IS OF BULK AT MOST 1048576: true; the input reads as it did. -/
def applyOtherUptoRow : OpenClaim := { program := "ythcnfflhejogfaadoor", sum := "06bb991a972d23ab676a628568de67104cda432f9ee3d6afeaf83c3b0dc209f0", func := "sennit/sennitlaw23.ApplyOther", spec := "applyOther", inPlace := ["internal/bytealg.IndexByteString", "internal/bytealg.IndexString"], unfollowed := true, recurses := true, named := ["internal/bytealg.MaxLen", "unicode/utf8.first", "unicode/utf8.acceptRanges"], apart := false, laid := [("unicode/utf8.acceptRanges", laid_unicode_utf8_acceptRanges), ("unicode/utf8.first", laid_unicode_utf8_first)], narrowed := true }
def ApplyOtherUptoSaid : Prop := applyOtherUptoRow.holds Tryd.pinned (OpenSpec.upto applyOtherSpec)

/-- 'sennitlaw21.HunkTells', WHERE WHAT IT READS IS OF BULK AT MOST 1048576: true; the input reads as it did. -/
def hunkTellsUptoRow : OpenClaim := { program := "ythcnfflhejogfaadoor", sum := "06bb991a972d23ab676a628568de67104cda432f9ee3d6afeaf83c3b0dc209f0", func := "sennit/sennitlaw21.HunkTells", spec := "hunkTells", inPlace := ["internal/bytealg.IndexByteString", "internal/bytealg.IndexString", "internal/bytealg.CountString", "internal/abi.NoEscape", "internal/bytealg.MakeNoZero"], unfollowed := true, recurses := true, named := ["unicode/utf8.first", "unicode/utf8.acceptRanges", "internal/bytealg.MaxLen"], apart := false, laid := [("unicode/utf8.acceptRanges", laid_unicode_utf8_acceptRanges), ("unicode/utf8.first", laid_unicode_utf8_first)], narrowed := true }
def HunkTellsUptoSaid : Prop := hunkTellsUptoRow.holds Tryd.pinned (OpenSpec.upto hunkTellsSpec)

/-- 'sennitlaw21.HunkGroups', WHERE WHAT IT READS IS OF BULK AT MOST 1048576: true; the input reads as it did. -/
def hunkGroupsUptoRow : OpenClaim := { program := "ythcnfflhejogfaadoor", sum := "06bb991a972d23ab676a628568de67104cda432f9ee3d6afeaf83c3b0dc209f0", func := "sennit/sennitlaw21.HunkGroups", spec := "hunkGroups", inPlace := ["internal/bytealg.IndexByteString", "internal/bytealg.IndexString", "internal/bytealg.CountString", "internal/abi.NoEscape", "internal/bytealg.MakeNoZero"], unfollowed := true, recurses := true, named := ["unicode/utf8.first", "unicode/utf8.acceptRanges", "internal/bytealg.MaxLen"], apart := false, laid := [("unicode/utf8.acceptRanges", laid_unicode_utf8_acceptRanges), ("unicode/utf8.first", laid_unicode_utf8_first)], narrowed := true }
def HunkGroupsUptoSaid : Prop := hunkGroupsUptoRow.holds Tryd.pinned (OpenSpec.upto hunkGroupsSpec)

/-- 'sennitlaw21.HunkCovers', WHERE WHAT IT READS IS OF BULK AT MOST 1048576: true; the input reads as it did. -/
def hunkCoversUptoRow : OpenClaim := { program := "ythcnfflhejogfaadoor", sum := "06bb991a972d23ab676a628568de67104cda432f9ee3d6afeaf83c3b0dc209f0", func := "sennit/sennitlaw21.HunkCovers", spec := "hunkCovers", inPlace := ["internal/bytealg.IndexByteString", "internal/bytealg.IndexString", "internal/bytealg.CountString", "internal/abi.NoEscape", "internal/bytealg.MakeNoZero"], unfollowed := true, recurses := true, named := ["unicode/utf8.first", "unicode/utf8.acceptRanges", "internal/bytealg.MaxLen"], apart := false, laid := [("unicode/utf8.acceptRanges", laid_unicode_utf8_acceptRanges), ("unicode/utf8.first", laid_unicode_utf8_first)], narrowed := true }
def HunkCoversUptoSaid : Prop := hunkCoversUptoRow.holds Tryd.pinned (OpenSpec.upto hunkCoversSpec)

/-- 'sennitlaw21.HunkSpans', WHERE WHAT IT READS IS OF BULK AT MOST 1048576: true; the input reads as it did. -/
def hunkSpansUptoRow : OpenClaim := { program := "ythcnfflhejogfaadoor", sum := "06bb991a972d23ab676a628568de67104cda432f9ee3d6afeaf83c3b0dc209f0", func := "sennit/sennitlaw21.HunkSpans", spec := "hunkSpans", inPlace := ["internal/bytealg.IndexByteString", "internal/bytealg.IndexString", "internal/bytealg.CountString", "internal/abi.NoEscape", "internal/bytealg.MakeNoZero"], unfollowed := true, recurses := true, named := ["unicode/utf8.first", "unicode/utf8.acceptRanges", "internal/bytealg.MaxLen"], apart := false, laid := [("unicode/utf8.acceptRanges", laid_unicode_utf8_acceptRanges), ("unicode/utf8.first", laid_unicode_utf8_first)], narrowed := true }
def HunkSpansUptoSaid : Prop := hunkSpansUptoRow.holds Tryd.pinned (OpenSpec.upto hunkSpansSpec)

/-- 'sennitlaw21.HunkContext', WHERE WHAT IT READS IS OF BULK AT MOST 1048576: true; the input reads as it did. -/
def hunkContextUptoRow : OpenClaim := { program := "ythcnfflhejogfaadoor", sum := "06bb991a972d23ab676a628568de67104cda432f9ee3d6afeaf83c3b0dc209f0", func := "sennit/sennitlaw21.HunkContext", spec := "hunkContext", inPlace := ["internal/bytealg.IndexByteString", "internal/bytealg.IndexString", "internal/bytealg.CountString", "internal/abi.NoEscape", "internal/bytealg.MakeNoZero"], unfollowed := true, recurses := true, named := ["unicode/utf8.first", "unicode/utf8.acceptRanges", "internal/bytealg.MaxLen"], apart := false, laid := [("unicode/utf8.acceptRanges", laid_unicode_utf8_acceptRanges), ("unicode/utf8.first", laid_unicode_utf8_first)], narrowed := true }
def HunkContextUptoSaid : Prop := hunkContextUptoRow.holds Tryd.pinned (OpenSpec.upto hunkContextSpec)

/-- 'sennitlaw21.HunkNone', WHERE WHAT IT READS IS OF BULK AT MOST 1048576: true; the input reads as it did. -/
def hunkNoneUptoRow : OpenClaim := { program := "ythcnfflhejogfaadoor", sum := "06bb991a972d23ab676a628568de67104cda432f9ee3d6afeaf83c3b0dc209f0", func := "sennit/sennitlaw21.HunkNone", spec := "hunkNone", inPlace := ["internal/bytealg.IndexByteString", "internal/bytealg.IndexString", "internal/bytealg.CountString", "internal/abi.NoEscape", "internal/bytealg.MakeNoZero"], unfollowed := true, recurses := true, named := ["unicode/utf8.first", "unicode/utf8.acceptRanges", "internal/bytealg.MaxLen"], apart := false, laid := [("unicode/utf8.acceptRanges", laid_unicode_utf8_acceptRanges), ("unicode/utf8.first", laid_unicode_utf8_first)], narrowed := true }
def HunkNoneUptoSaid : Prop := hunkNoneUptoRow.holds Tryd.pinned (OpenSpec.upto hunkNoneSpec)

end Rows
end Go.Proofs.YthcnfflhejogfaaDoor
