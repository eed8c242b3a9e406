/-
  Parts of one proof, one behind the other: .
-/
import Derived.Test.YtbbhdbeaikclcaaBMergeCarries2
import Derived.Laws.StructEq
