/-
  No cell of these rows narrows 'for every input' (looked for: loops, veiled, ifaces, maps, wideKeys, modest, calm, conditions, laid).
  DERIVED. THE GIVEN ROWS OF THIS SEAT. 12 by the template 'for every input the law returns true; each argument reads behind the call as it read before'; 0 by the template 'total and deterministic' (their statements: YtkakcefekabmhaaTotals.lean).
  GIVEN WITH THE SEED: the statements are not yours to turn. If you find one false, say at which input.
  Laid BY PROGRAM, IN A SANDBOX (cutbox-rows.mjs): the forced cells as the released guide's own fill.sh prints them over the translation 88808a57a075ac97… (all of the seat's roots in one cut). By AI agents, Wed Nov 11 2026. No macro, syntax, notation, axiom, sorry.
-/
import Derived.Test.YtkakcefekabmhaaChecked
import GoSem.Claim
import GoSem.ClaimJoined
import GoSem.ClaimMapViews
import Derived.JoinedTies
import Derived.KernelRfl
namespace Go.Proofs.Ytkakcefekabmhaa
/- THE CELL 'sum', in the pinned program and in every row, IS THE sha256 OF THE DUMP (.gsa) THAT YtkakcefekabmhaaProg.lean LOADS. Nothing in Lean hashes anything: it is a label: what it is worth is what the hold of that sum in a sandbox is worth. -/
noncomputable def Try.pinned : Pinned := { name := "ytkakcefekabmhaa", sum := "88808a57a075ac97e96b3ca0086d4c6bc6cb1c713bd09fb1d07129c2987951a8", checked := Try.checked }
namespace Rows
def none {H : Type} : Left H := { results := [], args := [] }

/-- 'sennitlaw03.LcsTells': WHATEVER THE INPUT: true; the input reads as it did. -/
def lcsTellsSpec : ChangeSpec := { name := "lcsTells", fn := fun _ => fun
  | [d1, d2] => { results := [.lit (.bool true)], args := [d1, d2] }
  | _ => none }
def lcsTellsRow : OpenClaim := { program := "ytkakcefekabmhaa", sum := "88808a57a075ac97e96b3ca0086d4c6bc6cb1c713bd09fb1d07129c2987951a8", func := "sennit/sennitlaw03.LcsTells", spec := "lcsTells", inPlace := ["sync/atomic.LoadUint32", "(*internal/sync.Mutex).Lock", "internal/race.Disable", "sync/atomic.CompareAndSwapInt32", "internal/race.Enable", "internal/race.Acquire", "(*internal/sync.Mutex).lockSlow", "internal/sync.runtime_canSpin", "internal/sync.runtime_doSpin", "internal/sync.throw", "internal/sync.runtime_nanotime", "internal/sync.runtime_SemacquireMutex", "sync/atomic.AddInt32", "(*internal/sync.Mutex).Unlock", "internal/race.ReleaseMerge", "(*internal/sync.Mutex).unlockSlow", "internal/sync.fatal", "internal/sync.runtime_Semrelease", "sync/atomic.StoreUint32"], unfollowed := true, recurses := true, apart := false }
def LcsTellsSaid : Prop := lcsTellsRow.holds Try.pinned (OpenSpec.ofChange lcsTellsSpec)

/-- ITS FALSE NEIGHBOUR: 'it returns false'. Refute it at one input. -/
def lcsTellsWrong : ChangeSpec := { name := "lcsTells", fn := fun _ => fun
  | [d1, d2] => { results := [.lit (.bool false)], args := [d1, d2] }
  | _ => none }
def LcsTellsWrongFalsely : Prop := lcsTellsRow.holds Try.pinned (OpenSpec.ofChange lcsTellsWrong)

/-- 'sennitlaw03.LcsPairs': WHATEVER THE INPUT: true; the input reads as it did. -/
def lcsPairsSpec : ChangeSpec := { name := "lcsPairs", fn := fun _ => fun
  | [d1, d2] => { results := [.lit (.bool true)], args := [d1, d2] }
  | _ => none }
def lcsPairsRow : OpenClaim := { program := "ytkakcefekabmhaa", sum := "88808a57a075ac97e96b3ca0086d4c6bc6cb1c713bd09fb1d07129c2987951a8", func := "sennit/sennitlaw03.LcsPairs", spec := "lcsPairs", inPlace := ["sync/atomic.LoadUint32", "(*internal/sync.Mutex).Lock", "internal/race.Disable", "sync/atomic.CompareAndSwapInt32", "internal/race.Enable", "internal/race.Acquire", "(*internal/sync.Mutex).lockSlow", "internal/sync.runtime_canSpin", "internal/sync.runtime_doSpin", "internal/sync.throw", "internal/sync.runtime_nanotime", "internal/sync.runtime_SemacquireMutex", "sync/atomic.AddInt32", "(*internal/sync.Mutex).Unlock", "internal/race.ReleaseMerge", "(*internal/sync.Mutex).unlockSlow", "internal/sync.fatal", "internal/sync.runtime_Semrelease", "sync/atomic.StoreUint32"], unfollowed := true, recurses := true, apart := false }
def LcsPairsSaid : Prop := lcsPairsRow.holds Try.pinned (OpenSpec.ofChange lcsPairsSpec)

/-- ITS FALSE NEIGHBOUR: 'it returns false'. Refute it at one input. -/
def lcsPairsWrong : ChangeSpec := { name := "lcsPairs", fn := fun _ => fun
  | [d1, d2] => { results := [.lit (.bool false)], args := [d1, d2] }
  | _ => none }
def LcsPairsWrongFalsely : Prop := lcsPairsRow.holds Try.pinned (OpenSpec.ofChange lcsPairsWrong)

/-- 'sennitlaw03.LcsGreatest': WHATEVER THE INPUT: true; the input reads as it did. -/
def lcsGreatestSpec : ChangeSpec := { name := "lcsGreatest", fn := fun _ => fun
  | [d1, d2, d3] => { results := [.lit (.bool true)], args := [d1, d2, d3] }
  | _ => none }
def lcsGreatestRow : OpenClaim := { program := "ytkakcefekabmhaa", sum := "88808a57a075ac97e96b3ca0086d4c6bc6cb1c713bd09fb1d07129c2987951a8", func := "sennit/sennitlaw03.LcsGreatest", spec := "lcsGreatest", inPlace := ["sync/atomic.LoadUint32", "(*internal/sync.Mutex).Lock", "internal/race.Disable", "sync/atomic.CompareAndSwapInt32", "internal/race.Enable", "internal/race.Acquire", "(*internal/sync.Mutex).lockSlow", "internal/sync.runtime_canSpin", "internal/sync.runtime_doSpin", "internal/sync.throw", "internal/sync.runtime_nanotime", "internal/sync.runtime_SemacquireMutex", "sync/atomic.AddInt32", "(*internal/sync.Mutex).Unlock", "internal/race.ReleaseMerge", "(*internal/sync.Mutex).unlockSlow", "internal/sync.fatal", "internal/sync.runtime_Semrelease", "sync/atomic.StoreUint32"], unfollowed := true, recurses := true, apart := false }
def LcsGreatestSaid : Prop := lcsGreatestRow.holds Try.pinned (OpenSpec.ofChange lcsGreatestSpec)

/-- ITS FALSE NEIGHBOUR: 'it returns false'. Refute it at one input. -/
def lcsGreatestWrong : ChangeSpec := { name := "lcsGreatest", fn := fun _ => fun
  | [d1, d2, d3] => { results := [.lit (.bool false)], args := [d1, d2, d3] }
  | _ => none }
def LcsGreatestWrongFalsely : Prop := lcsGreatestRow.holds Try.pinned (OpenSpec.ofChange lcsGreatestWrong)

/-- 'sennitlaw03.LcsTurned': WHATEVER THE INPUT: true; the input reads as it did. -/
def lcsTurnedSpec : ChangeSpec := { name := "lcsTurned", fn := fun _ => fun
  | [d1, d2] => { results := [.lit (.bool true)], args := [d1, d2] }
  | _ => none }
def lcsTurnedRow : OpenClaim := { program := "ytkakcefekabmhaa", sum := "88808a57a075ac97e96b3ca0086d4c6bc6cb1c713bd09fb1d07129c2987951a8", func := "sennit/sennitlaw03.LcsTurned", spec := "lcsTurned", inPlace := ["sync/atomic.LoadUint32", "(*internal/sync.Mutex).Lock", "internal/race.Disable", "sync/atomic.CompareAndSwapInt32", "internal/race.Enable", "internal/race.Acquire", "(*internal/sync.Mutex).lockSlow", "internal/sync.runtime_canSpin", "internal/sync.runtime_doSpin", "internal/sync.throw", "internal/sync.runtime_nanotime", "internal/sync.runtime_SemacquireMutex", "sync/atomic.AddInt32", "(*internal/sync.Mutex).Unlock", "internal/race.ReleaseMerge", "(*internal/sync.Mutex).unlockSlow", "internal/sync.fatal", "internal/sync.runtime_Semrelease", "sync/atomic.StoreUint32"], unfollowed := true, recurses := true, apart := false }
def LcsTurnedSaid : Prop := lcsTurnedRow.holds Try.pinned (OpenSpec.ofChange lcsTurnedSpec)

/-- ITS FALSE NEIGHBOUR: 'it returns false'. Refute it at one input. -/
def lcsTurnedWrong : ChangeSpec := { name := "lcsTurned", fn := fun _ => fun
  | [d1, d2] => { results := [.lit (.bool false)], args := [d1, d2] }
  | _ => none }
def LcsTurnedWrongFalsely : Prop := lcsTurnedRow.holds Try.pinned (OpenSpec.ofChange lcsTurnedWrong)

/-- 'sennitlaw03.LcsEnds': WHATEVER THE INPUT: true; the input reads as it did. -/
def lcsEndsSpec : ChangeSpec := { name := "lcsEnds", fn := fun _ => fun
  | [d1, d2, d3] => { results := [.lit (.bool true)], args := [d1, d2, d3] }
  | _ => none }
def lcsEndsRow : OpenClaim := { program := "ytkakcefekabmhaa", sum := "88808a57a075ac97e96b3ca0086d4c6bc6cb1c713bd09fb1d07129c2987951a8", func := "sennit/sennitlaw03.LcsEnds", spec := "lcsEnds", inPlace := ["sync/atomic.LoadUint32", "(*internal/sync.Mutex).Lock", "internal/race.Disable", "sync/atomic.CompareAndSwapInt32", "internal/race.Enable", "internal/race.Acquire", "(*internal/sync.Mutex).lockSlow", "internal/sync.runtime_canSpin", "internal/sync.runtime_doSpin", "internal/sync.throw", "internal/sync.runtime_nanotime", "internal/sync.runtime_SemacquireMutex", "sync/atomic.AddInt32", "(*internal/sync.Mutex).Unlock", "internal/race.ReleaseMerge", "(*internal/sync.Mutex).unlockSlow", "internal/sync.fatal", "internal/sync.runtime_Semrelease", "sync/atomic.StoreUint32"], unfollowed := true, recurses := true, apart := false }
def LcsEndsSaid : Prop := lcsEndsRow.holds Try.pinned (OpenSpec.ofChange lcsEndsSpec)

/-- ITS FALSE NEIGHBOUR: 'it returns false'. Refute it at one input. -/
def lcsEndsWrong : ChangeSpec := { name := "lcsEnds", fn := fun _ => fun
  | [d1, d2, d3] => { results := [.lit (.bool false)], args := [d1, d2, d3] }
  | _ => none }
def LcsEndsWrongFalsely : Prop := lcsEndsRow.holds Try.pinned (OpenSpec.ofChange lcsEndsWrong)

/-- 'sennitlaw03.LcsBetween': WHATEVER THE INPUT: true; the input reads as it did. -/
def lcsBetweenSpec : ChangeSpec := { name := "lcsBetween", fn := fun _ => fun
  | [d1, d2, d3] => { results := [.lit (.bool true)], args := [d1, d2, d3] }
  | _ => none }
def lcsBetweenRow : OpenClaim := { program := "ytkakcefekabmhaa", sum := "88808a57a075ac97e96b3ca0086d4c6bc6cb1c713bd09fb1d07129c2987951a8", func := "sennit/sennitlaw03.LcsBetween", spec := "lcsBetween", inPlace := ["sync/atomic.LoadUint32", "(*internal/sync.Mutex).Lock", "internal/race.Disable", "sync/atomic.CompareAndSwapInt32", "internal/race.Enable", "internal/race.Acquire", "(*internal/sync.Mutex).lockSlow", "internal/sync.runtime_canSpin", "internal/sync.runtime_doSpin", "internal/sync.throw", "internal/sync.runtime_nanotime", "internal/sync.runtime_SemacquireMutex", "sync/atomic.AddInt32", "(*internal/sync.Mutex).Unlock", "internal/race.ReleaseMerge", "(*internal/sync.Mutex).unlockSlow", "internal/sync.fatal", "internal/sync.runtime_Semrelease", "sync/atomic.StoreUint32"], unfollowed := true, recurses := true, apart := false }
def LcsBetweenSaid : Prop := lcsBetweenRow.holds Try.pinned (OpenSpec.ofChange lcsBetweenSpec)

/-- ITS FALSE NEIGHBOUR: 'it returns false'. Refute it at one input. -/
def lcsBetweenWrong : ChangeSpec := { name := "lcsBetween", fn := fun _ => fun
  | [d1, d2, d3] => { results := [.lit (.bool false)], args := [d1, d2, d3] }
  | _ => none }
def LcsBetweenWrongFalsely : Prop := lcsBetweenRow.holds Try.pinned (OpenSpec.ofChange lcsBetweenWrong)

/-- 'sennitlaw03.LcsLong': WHATEVER THE INPUT: true; the input reads as it did. -/
def lcsLongSpec : ChangeSpec := { name := "lcsLong", fn := fun _ => fun
  | [d1, d2] => { results := [.lit (.bool true)], args := [d1, d2] }
  | _ => none }
def lcsLongRow : OpenClaim := { program := "ytkakcefekabmhaa", sum := "88808a57a075ac97e96b3ca0086d4c6bc6cb1c713bd09fb1d07129c2987951a8", func := "sennit/sennitlaw03.LcsLong", spec := "lcsLong", inPlace := ["sync/atomic.LoadUint32", "(*internal/sync.Mutex).Lock", "internal/race.Disable", "sync/atomic.CompareAndSwapInt32", "internal/race.Enable", "internal/race.Acquire", "(*internal/sync.Mutex).lockSlow", "internal/sync.runtime_canSpin", "internal/sync.runtime_doSpin", "internal/sync.throw", "internal/sync.runtime_nanotime", "internal/sync.runtime_SemacquireMutex", "sync/atomic.AddInt32", "(*internal/sync.Mutex).Unlock", "internal/race.ReleaseMerge", "(*internal/sync.Mutex).unlockSlow", "internal/sync.fatal", "internal/sync.runtime_Semrelease", "sync/atomic.StoreUint32"], unfollowed := true, recurses := true, apart := false }
def LcsLongSaid : Prop := lcsLongRow.holds Try.pinned (OpenSpec.ofChange lcsLongSpec)

/-- ITS FALSE NEIGHBOUR: 'it returns false'. Refute it at one input. -/
def lcsLongWrong : ChangeSpec := { name := "lcsLong", fn := fun _ => fun
  | [d1, d2] => { results := [.lit (.bool false)], args := [d1, d2] }
  | _ => none }
def LcsLongWrongFalsely : Prop := lcsLongRow.holds Try.pinned (OpenSpec.ofChange lcsLongWrong)

/-- 'sennitlaw01.LinesSplits': WHATEVER THE INPUT: true; the input reads as it did. -/
def linesSplitsSpec : ChangeSpec := { name := "linesSplits", fn := fun _ => fun
  | [d] => { results := [.lit (.bool true)], args := [d] }
  | _ => none }
def linesSplitsRow : OpenClaim := { program := "ytkakcefekabmhaa", sum := "88808a57a075ac97e96b3ca0086d4c6bc6cb1c713bd09fb1d07129c2987951a8", func := "sennit/sennitlaw01.LinesSplits", spec := "linesSplits", inPlace := ["internal/bytealg.IndexByte", "internal/bytealg.IndexByteString", "internal/bytealg.IndexString", "internal/abi.NoEscape", "internal/bytealg.MakeNoZero"], unfollowed := true, recurses := true, named := ["internal/bytealg.MaxLen"], apart := false }
def LinesSplitsSaid : Prop := linesSplitsRow.holds Try.pinned (OpenSpec.ofChange linesSplitsSpec)

/-- ITS FALSE NEIGHBOUR: 'it returns false'. Refute it at one input. -/
def linesSplitsWrong : ChangeSpec := { name := "linesSplits", fn := fun _ => fun
  | [d] => { results := [.lit (.bool false)], args := [d] }
  | _ => none }
def LinesSplitsWrongFalsely : Prop := linesSplitsRow.holds Try.pinned (OpenSpec.ofChange linesSplitsWrong)

/-- 'sennitlaw01.LinesBack': WHATEVER THE INPUT: true; the input reads as it did. -/
def linesBackSpec : ChangeSpec := { name := "linesBack", fn := fun _ => fun
  | [d] => { results := [.lit (.bool true)], args := [d] }
  | _ => none }
def linesBackRow : OpenClaim := { program := "ytkakcefekabmhaa", sum := "88808a57a075ac97e96b3ca0086d4c6bc6cb1c713bd09fb1d07129c2987951a8", func := "sennit/sennitlaw01.LinesBack", spec := "linesBack", inPlace := ["internal/bytealg.IndexByte", "internal/bytealg.IndexByteString", "internal/bytealg.IndexString", "internal/abi.NoEscape", "internal/bytealg.MakeNoZero"], unfollowed := true, recurses := true, named := ["internal/bytealg.MaxLen"], apart := false }
def LinesBackSaid : Prop := linesBackRow.holds Try.pinned (OpenSpec.ofChange linesBackSpec)

/-- ITS FALSE NEIGHBOUR: 'it returns false'. Refute it at one input. -/
def linesBackWrong : ChangeSpec := { name := "linesBack", fn := fun _ => fun
  | [d] => { results := [.lit (.bool false)], args := [d] }
  | _ => none }
def LinesBackWrongFalsely : Prop := linesBackRow.holds Try.pinned (OpenSpec.ofChange linesBackWrong)

/-- 'sennitlaw01.LinesOne': WHATEVER THE INPUT: true; the input reads as it did. -/
def linesOneSpec : ChangeSpec := { name := "linesOne", fn := fun _ => fun
  | [d] => { results := [.lit (.bool true)], args := [d] }
  | _ => none }
def linesOneRow : OpenClaim := { program := "ytkakcefekabmhaa", sum := "88808a57a075ac97e96b3ca0086d4c6bc6cb1c713bd09fb1d07129c2987951a8", func := "sennit/sennitlaw01.LinesOne", spec := "linesOne", inPlace := ["internal/bytealg.IndexByte", "internal/bytealg.IndexByteString", "internal/bytealg.IndexString", "internal/abi.NoEscape", "internal/bytealg.MakeNoZero"], unfollowed := true, recurses := true, named := ["internal/bytealg.MaxLen"], apart := false }
def LinesOneSaid : Prop := linesOneRow.holds Try.pinned (OpenSpec.ofChange linesOneSpec)

/-- ITS FALSE NEIGHBOUR: 'it returns false'. Refute it at one input. -/
def linesOneWrong : ChangeSpec := { name := "linesOne", fn := fun _ => fun
  | [d] => { results := [.lit (.bool false)], args := [d] }
  | _ => none }
def LinesOneWrongFalsely : Prop := linesOneRow.holds Try.pinned (OpenSpec.ofChange linesOneWrong)

/-- 'sennitlaw01.LinesMay': WHATEVER THE INPUT: true; the input reads as it did. -/
def linesMaySpec : ChangeSpec := { name := "linesMay", fn := fun _ => fun
  | [d] => { results := [.lit (.bool true)], args := [d] }
  | _ => none }
def linesMayRow : OpenClaim := { program := "ytkakcefekabmhaa", sum := "88808a57a075ac97e96b3ca0086d4c6bc6cb1c713bd09fb1d07129c2987951a8", func := "sennit/sennitlaw01.LinesMay", spec := "linesMay", inPlace := ["internal/bytealg.IndexByte", "internal/bytealg.IndexByteString", "internal/bytealg.IndexString", "internal/abi.NoEscape", "internal/bytealg.MakeNoZero"], unfollowed := true, recurses := true, named := ["internal/bytealg.MaxLen"], apart := false }
def LinesMaySaid : Prop := linesMayRow.holds Try.pinned (OpenSpec.ofChange linesMaySpec)

/-- ITS FALSE NEIGHBOUR: 'it returns false'. Refute it at one input. -/
def linesMayWrong : ChangeSpec := { name := "linesMay", fn := fun _ => fun
  | [d] => { results := [.lit (.bool false)], args := [d] }
  | _ => none }
def LinesMayWrongFalsely : Prop := linesMayRow.holds Try.pinned (OpenSpec.ofChange linesMayWrong)

/-- 'sennitlaw01.LinesJoins': WHATEVER THE INPUT: true; the input reads as it did. -/
def linesJoinsSpec : ChangeSpec := { name := "linesJoins", fn := fun _ => fun
  | [d1, d2] => { results := [.lit (.bool true)], args := [d1, d2] }
  | _ => none }
def linesJoinsRow : OpenClaim := { program := "ytkakcefekabmhaa", sum := "88808a57a075ac97e96b3ca0086d4c6bc6cb1c713bd09fb1d07129c2987951a8", func := "sennit/sennitlaw01.LinesJoins", spec := "linesJoins", inPlace := ["internal/bytealg.IndexByte", "internal/bytealg.IndexByteString", "internal/bytealg.IndexString", "internal/abi.NoEscape", "internal/bytealg.MakeNoZero"], unfollowed := true, recurses := true, named := ["internal/bytealg.MaxLen"], apart := false }
def LinesJoinsSaid : Prop := linesJoinsRow.holds Try.pinned (OpenSpec.ofChange linesJoinsSpec)

/-- ITS FALSE NEIGHBOUR: 'it returns false'. Refute it at one input. -/
def linesJoinsWrong : ChangeSpec := { name := "linesJoins", fn := fun _ => fun
  | [d1, d2] => { results := [.lit (.bool false)], args := [d1, d2] }
  | _ => none }
def LinesJoinsWrongFalsely : Prop := linesJoinsRow.holds Try.pinned (OpenSpec.ofChange linesJoinsWrong)

/- THE SECOND FORM. 'bulk': how many values and letters a reading holds, each counted each time it is reached (what is shared counts as often as it is met; a slice's spare places count too). A statement '..UptoSaid' is the law's where the arguments, and the package variables that the reading takes, are together of bulk at most 1048576: NARROWER than '..Said'. Prove '..Said' where nothing that the law and all that it calls make is longer than what came in: it says more and counts as full. Else prove '..UptoSaid'. A law counts once. -/
mutual
def uptoBulk {H : Type} : DataW H → Nat
  | .lit (.string bytes) => bytes.length + 1
  | .lit _ => 1
  | .nil => 1
  | .ptr d => uptoBulk d + 1
  | .slice elems spare => uptoBulkAll elems + uptoBulkAll spare + 1
  | .agg parts => uptoBulkAll parts + 1
  | .iface _ d => uptoBulk d + 1
  | .map entries => uptoBulkEntries entries + 1
  | .held _ => 1
def uptoBulkAll {H : Type} : List (DataW H) → Nat
  | [] => 0
  | d :: r => uptoBulk d + uptoBulkAll r
def uptoBulkEntries {H : Type} : List (Lit × DataW H) → Nat
  | [] => 0
  | x :: r => uptoBulkEntry x + uptoBulkEntries r
def uptoBulkEntry {H : Type} : Lit × DataW H → Nat
  | (.string bytes, d) => bytes.length + uptoBulk d + 1
  | (_, d) => uptoBulk d + 1
 end
def uptoSmall : (H : Type) → List (DataW H) → Bool := fun _ ds => decide (uptoBulkAll ds ≤ 1048576)
def OpenSpec.upto (s : _root_.Go.ChangeSpec) : _root_.Go.OpenSpec := { _root_.Go.OpenSpec.ofChange s with cond := some uptoSmall }

/-- 'sennitlaw03.LcsTells', WHERE WHAT IT READS IS OF BULK AT MOST 1048576: true; the input reads as it did. -/
def lcsTellsUptoRow : OpenClaim := { program := "ytkakcefekabmhaa", sum := "88808a57a075ac97e96b3ca0086d4c6bc6cb1c713bd09fb1d07129c2987951a8", func := "sennit/sennitlaw03.LcsTells", spec := "lcsTells", inPlace := ["sync/atomic.LoadUint32", "(*internal/sync.Mutex).Lock", "internal/race.Disable", "sync/atomic.CompareAndSwapInt32", "internal/race.Enable", "internal/race.Acquire", "(*internal/sync.Mutex).lockSlow", "internal/sync.runtime_canSpin", "internal/sync.runtime_doSpin", "internal/sync.throw", "internal/sync.runtime_nanotime", "internal/sync.runtime_SemacquireMutex", "sync/atomic.AddInt32", "(*internal/sync.Mutex).Unlock", "internal/race.ReleaseMerge", "(*internal/sync.Mutex).unlockSlow", "internal/sync.fatal", "internal/sync.runtime_Semrelease", "sync/atomic.StoreUint32"], unfollowed := true, recurses := true, apart := false, narrowed := true }
def LcsTellsUptoSaid : Prop := lcsTellsUptoRow.holds Try.pinned (OpenSpec.upto lcsTellsSpec)

/-- 'sennitlaw03.LcsPairs', WHERE WHAT IT READS IS OF BULK AT MOST 1048576: true; the input reads as it did. -/
def lcsPairsUptoRow : OpenClaim := { program := "ytkakcefekabmhaa", sum := "88808a57a075ac97e96b3ca0086d4c6bc6cb1c713bd09fb1d07129c2987951a8", func := "sennit/sennitlaw03.LcsPairs", spec := "lcsPairs", inPlace := ["sync/atomic.LoadUint32", "(*internal/sync.Mutex).Lock", "internal/race.Disable", "sync/atomic.CompareAndSwapInt32", "internal/race.Enable", "internal/race.Acquire", "(*internal/sync.Mutex).lockSlow", "internal/sync.runtime_canSpin", "internal/sync.runtime_doSpin", "internal/sync.throw", "internal/sync.runtime_nanotime", "internal/sync.runtime_SemacquireMutex", "sync/atomic.AddInt32", "(*internal/sync.Mutex).Unlock", "internal/race.ReleaseMerge", "(*internal/sync.Mutex).unlockSlow", "internal/sync.fatal", "internal/sync.runtime_Semrelease", "sync/atomic.StoreUint32"], unfollowed := true, recurses := true, apart := false, narrowed := true }
def LcsPairsUptoSaid : Prop := lcsPairsUptoRow.holds Try.pinned (OpenSpec.upto lcsPairsSpec)

/-- 'sennitlaw03.LcsGreatest', WHERE WHAT IT READS IS OF BULK AT MOST 1048576: true; the input reads as it did. -/
def lcsGreatestUptoRow : OpenClaim := { program := "ytkakcefekabmhaa", sum := "88808a57a075ac97e96b3ca0086d4c6bc6cb1c713bd09fb1d07129c2987951a8", func := "sennit/sennitlaw03.LcsGreatest", spec := "lcsGreatest", inPlace := ["sync/atomic.LoadUint32", "(*internal/sync.Mutex).Lock", "internal/race.Disable", "sync/atomic.CompareAndSwapInt32", "internal/race.Enable", "internal/race.Acquire", "(*internal/sync.Mutex).lockSlow", "internal/sync.runtime_canSpin", "internal/sync.runtime_doSpin", "internal/sync.throw", "internal/sync.runtime_nanotime", "internal/sync.runtime_SemacquireMutex", "sync/atomic.AddInt32", "(*internal/sync.Mutex).Unlock", "internal/race.ReleaseMerge", "(*internal/sync.Mutex).unlockSlow", "internal/sync.fatal", "internal/sync.runtime_Semrelease", "sync/atomic.StoreUint32"], unfollowed := true, recurses := true, apart := false, narrowed := true }
def LcsGreatestUptoSaid : Prop := lcsGreatestUptoRow.holds Try.pinned (OpenSpec.upto lcsGreatestSpec)

/-- 'sennitlaw03.LcsTurned', WHERE WHAT IT READS IS OF BULK AT MOST 1048576: true; the input reads as it did. -/
def lcsTurnedUptoRow : OpenClaim := { program := "ytkakcefekabmhaa", sum := "88808a57a075ac97e96b3ca0086d4c6bc6cb1c713bd09fb1d07129c2987951a8", func := "sennit/sennitlaw03.LcsTurned", spec := "lcsTurned", inPlace := ["sync/atomic.LoadUint32", "(*internal/sync.Mutex).Lock", "internal/race.Disable", "sync/atomic.CompareAndSwapInt32", "internal/race.Enable", "internal/race.Acquire", "(*internal/sync.Mutex).lockSlow", "internal/sync.runtime_canSpin", "internal/sync.runtime_doSpin", "internal/sync.throw", "internal/sync.runtime_nanotime", "internal/sync.runtime_SemacquireMutex", "sync/atomic.AddInt32", "(*internal/sync.Mutex).Unlock", "internal/race.ReleaseMerge", "(*internal/sync.Mutex).unlockSlow", "internal/sync.fatal", "internal/sync.runtime_Semrelease", "sync/atomic.StoreUint32"], unfollowed := true, recurses := true, apart := false, narrowed := true }
def LcsTurnedUptoSaid : Prop := lcsTurnedUptoRow.holds Try.pinned (OpenSpec.upto lcsTurnedSpec)

/-- 'sennitlaw03.LcsEnds', WHERE WHAT IT READS IS OF BULK AT MOST 1048576: true; the input reads as it did. -/
def lcsEndsUptoRow : OpenClaim := { program := "ytkakcefekabmhaa", sum := "88808a57a075ac97e96b3ca0086d4c6bc6cb1c713bd09fb1d07129c2987951a8", func := "sennit/sennitlaw03.LcsEnds", spec := "lcsEnds", inPlace := ["sync/atomic.LoadUint32", "(*internal/sync.Mutex).Lock", "internal/race.Disable", "sync/atomic.CompareAndSwapInt32", "internal/race.Enable", "internal/race.Acquire", "(*internal/sync.Mutex).lockSlow", "internal/sync.runtime_canSpin", "internal/sync.runtime_doSpin", "internal/sync.throw", "internal/sync.runtime_nanotime", "internal/sync.runtime_SemacquireMutex", "sync/atomic.AddInt32", "(*internal/sync.Mutex).Unlock", "internal/race.ReleaseMerge", "(*internal/sync.Mutex).unlockSlow", "internal/sync.fatal", "internal/sync.runtime_Semrelease", "sync/atomic.StoreUint32"], unfollowed := true, recurses := true, apart := false, narrowed := true }
def LcsEndsUptoSaid : Prop := lcsEndsUptoRow.holds Try.pinned (OpenSpec.upto lcsEndsSpec)

/-- 'sennitlaw03.LcsBetween', WHERE WHAT IT READS IS OF BULK AT MOST 1048576: true; the input reads as it did. -/
def lcsBetweenUptoRow : OpenClaim := { program := "ytkakcefekabmhaa", sum := "88808a57a075ac97e96b3ca0086d4c6bc6cb1c713bd09fb1d07129c2987951a8", func := "sennit/sennitlaw03.LcsBetween", spec := "lcsBetween", inPlace := ["sync/atomic.LoadUint32", "(*internal/sync.Mutex).Lock", "internal/race.Disable", "sync/atomic.CompareAndSwapInt32", "internal/race.Enable", "internal/race.Acquire", "(*internal/sync.Mutex).lockSlow", "internal/sync.runtime_canSpin", "internal/sync.runtime_doSpin", "internal/sync.throw", "internal/sync.runtime_nanotime", "internal/sync.runtime_SemacquireMutex", "sync/atomic.AddInt32", "(*internal/sync.Mutex).Unlock", "internal/race.ReleaseMerge", "(*internal/sync.Mutex).unlockSlow", "internal/sync.fatal", "internal/sync.runtime_Semrelease", "sync/atomic.StoreUint32"], unfollowed := true, recurses := true, apart := false, narrowed := true }
def LcsBetweenUptoSaid : Prop := lcsBetweenUptoRow.holds Try.pinned (OpenSpec.upto lcsBetweenSpec)

/-- 'sennitlaw03.LcsLong', WHERE WHAT IT READS IS OF BULK AT MOST 1048576: true; the input reads as it did. -/
def lcsLongUptoRow : OpenClaim := { program := "ytkakcefekabmhaa", sum := "88808a57a075ac97e96b3ca0086d4c6bc6cb1c713bd09fb1d07129c2987951a8", func := "sennit/sennitlaw03.LcsLong", spec := "lcsLong", inPlace := ["sync/atomic.LoadUint32", "(*internal/sync.Mutex).Lock", "internal/race.Disable", "sync/atomic.CompareAndSwapInt32", "internal/race.Enable", "internal/race.Acquire", "(*internal/sync.Mutex).lockSlow", "internal/sync.runtime_canSpin", "internal/sync.runtime_doSpin", "internal/sync.throw", "internal/sync.runtime_nanotime", "internal/sync.runtime_SemacquireMutex", "sync/atomic.AddInt32", "(*internal/sync.Mutex).Unlock", "internal/race.ReleaseMerge", "(*internal/sync.Mutex).unlockSlow", "internal/sync.fatal", "internal/sync.runtime_Semrelease", "sync/atomic.StoreUint32"], unfollowed := true, recurses := true, apart := false, narrowed := true }
def LcsLongUptoSaid : Prop := lcsLongUptoRow.holds Try.pinned (OpenSpec.upto lcsLongSpec)

/-- 'sennitlaw01.LinesSplits', WHERE WHAT IT READS IS OF BULK AT MOST 1048576: true; the input reads as it did. -/
def linesSplitsUptoRow : OpenClaim := { program := "ytkakcefekabmhaa", sum := "88808a57a075ac97e96b3ca0086d4c6bc6cb1c713bd09fb1d07129c2987951a8", func := "sennit/sennitlaw01.LinesSplits", spec := "linesSplits", inPlace := ["internal/bytealg.IndexByte", "internal/bytealg.IndexByteString", "internal/bytealg.IndexString", "internal/abi.NoEscape", "internal/bytealg.MakeNoZero"], unfollowed := true, recurses := true, named := ["internal/bytealg.MaxLen"], apart := false, narrowed := true }
def LinesSplitsUptoSaid : Prop := linesSplitsUptoRow.holds Try.pinned (OpenSpec.upto linesSplitsSpec)

/-- 'sennitlaw01.LinesBack', WHERE WHAT IT READS IS OF BULK AT MOST 1048576: true; the input reads as it did. -/
def linesBackUptoRow : OpenClaim := { program := "ytkakcefekabmhaa", sum := "88808a57a075ac97e96b3ca0086d4c6bc6cb1c713bd09fb1d07129c2987951a8", func := "sennit/sennitlaw01.LinesBack", spec := "linesBack", inPlace := ["internal/bytealg.IndexByte", "internal/bytealg.IndexByteString", "internal/bytealg.IndexString", "internal/abi.NoEscape", "internal/bytealg.MakeNoZero"], unfollowed := true, recurses := true, named := ["internal/bytealg.MaxLen"], apart := false, narrowed := true }
def LinesBackUptoSaid : Prop := linesBackUptoRow.holds Try.pinned (OpenSpec.upto linesBackSpec)

/-- 'sennitlaw01.LinesOne', WHERE WHAT IT READS IS OF BULK AT MOST 1048576: true; the input reads as it did. -/
def linesOneUptoRow : OpenClaim := { program := "ytkakcefekabmhaa", sum := "88808a57a075ac97e96b3ca0086d4c6bc6cb1c713bd09fb1d07129c2987951a8", func := "sennit/sennitlaw01.LinesOne", spec := "linesOne", inPlace := ["internal/bytealg.IndexByte", "internal/bytealg.IndexByteString", "internal/bytealg.IndexString", "internal/abi.NoEscape", "internal/bytealg.MakeNoZero"], unfollowed := true, recurses := true, named := ["internal/bytealg.MaxLen"], apart := false, narrowed := true }
def LinesOneUptoSaid : Prop := linesOneUptoRow.holds Try.pinned (OpenSpec.upto linesOneSpec)

/-- 'sennitlaw01.LinesMay', WHERE WHAT IT READS IS OF BULK AT MOST 1048576: true; the input reads as it did. -/
def linesMayUptoRow : OpenClaim := { program := "ytkakcefekabmhaa", sum := "88808a57a075ac97e96b3ca0086d4c6bc6cb1c713bd09fb1d07129c2987951a8", func := "sennit/sennitlaw01.LinesMay", spec := "linesMay", inPlace := ["internal/bytealg.IndexByte", "internal/bytealg.IndexByteString", "internal/bytealg.IndexString", "internal/abi.NoEscape", "internal/bytealg.MakeNoZero"], unfollowed := true, recurses := true, named := ["internal/bytealg.MaxLen"], apart := false, narrowed := true }
def LinesMayUptoSaid : Prop := linesMayUptoRow.holds Try.pinned (OpenSpec.upto linesMaySpec)

/-- 'sennitlaw01.LinesJoins', WHERE WHAT IT READS IS OF BULK AT MOST 1048576: true; the input reads as it did. -/
def linesJoinsUptoRow : OpenClaim := { program := "ytkakcefekabmhaa", sum := "88808a57a075ac97e96b3ca0086d4c6bc6cb1c713bd09fb1d07129c2987951a8", func := "sennit/sennitlaw01.LinesJoins", spec := "linesJoins", inPlace := ["internal/bytealg.IndexByte", "internal/bytealg.IndexByteString", "internal/bytealg.IndexString", "internal/abi.NoEscape", "internal/bytealg.MakeNoZero"], unfollowed := true, recurses := true, named := ["internal/bytealg.MaxLen"], apart := false, narrowed := true }
def LinesJoinsUptoSaid : Prop := linesJoinsUptoRow.holds Try.pinned (OpenSpec.upto linesJoinsSpec)

end Rows
end Go.Proofs.Ytkakcefekabmhaa
