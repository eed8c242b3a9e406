/-
  gap: what a list that comes makes of the rows: plain Lean.
-/
import Derived.Test.YtnlekganlliikaaXInternMath
import Derived.Test.YtnlekganlliikaaXLcsMath
import Derived.Test.YtnlekganlliikaaXGap2
namespace Go.Proofs.Ytnlekganlliikaa.X
set_option linter.unusedVariables false
set_option linter.unusedSimpArgs false

/-- Places that rise, from lo on, below hi; -1: none. -/
def Up (hi : Nat) : Nat → List Int → Prop
  | lo, [] => lo ≤ hi
  | lo, m :: ms => (m = -1 ∧ Up hi lo ms) ∨ (∃ k : Nat, m = (k : Int) ∧ lo ≤ k ∧ k < hi ∧ Up hi (k + 1) ms)
theorem Up.le {hi : Nat} : ∀ {ms : List Int} {lo : Nat}, Up hi lo ms → lo ≤ hi
  | [], lo, h => h
  | m :: ms, lo, h => by
    rcases h with ⟨_, h⟩ | ⟨k, _, h1, h2, _⟩
    · exact Up.le h
    · omega
theorem up_of_rises {a b : List Int} : ∀ {ms : List Int} {a b : List Int} {j n : Nat}, Rises a b j ms n → Up (j + b.length) j ms
  | [], a, b, j, n, h => by simp [Up]
  | m :: ms, a, b, j, n, h => by
    rcases h with ⟨h1, h2⟩ | ⟨k, n', h1, _, h3, h4, h5⟩
    · exact .inl ⟨h1, up_of_rises (a := []) (b := []) h2⟩
    · have hk : k < b.length := by
        rcases Nat.lt_or_ge k b.length with h | h
        · exact h
        · rw [List.getElem?_eq_none h] at h3
          cases a with
          | nil => exact absurd rfl h4
          | cons x xs => cases h3
      have := up_of_rises (a := []) (b := []) h5
      rw [List.length_drop] at this
      refine .inr ⟨j + k, h1, by omega, by omega, ?_⟩
      rwa [show j + k + 1 + (b.length - (k + 1)) = j + b.length by omega] at this
theorem match_up (a b : List Int) : Up b.length 0 (matchOf a b) := by
  have := up_of_rises (a := []) (b := []) (matchFrom_rises a b 0)
  rwa [Nat.zero_add] at this
/-- The rows, as a list comes to them: m tells where each row is paired. -/
def comeGo (col : Nat) (list : List ByteArray) : List Int → List RowG → Nat → List RowG
  | m :: ms, x :: rs, at_ => if 0 ≤ m then ((list.take m.toNat).drop at_).map (oneRow col) ++ (x.1.set col 1, x.2) :: comeGo col list ms rs (m.toNat + 1) else x :: comeGo col list ms rs at_
  | _, _, at_ => (list.drop at_).map (oneRow col)
def idsOf2 (rs : List RowG) (list : List ByteArray) : List (List Int) := idsAll [rs.map (·.2), list]
def matchG (rs : List RowG) (list : List ByteArray) : List Int := matchOf ((idsOf2 rs list).getD 0 []) ((idsOf2 rs list).getD 1 [])
def comeF (col : Nat) (list : List ByteArray) (rs : List RowG) : List RowG := comeGo col list (matchG rs list) rs 0
theorem ids2_len (rs : List RowG) (list : List ByteArray) : ((idsOf2 rs list).getD 0 []).length = rs.length ∧ ((idsOf2 rs list).getD 1 []).length = list.length := by
  constructor
  · show (idsOne [] (rs.map (·.2))).2.length = _
    rw [idsOne_length, List.length_map]
  · show (idsOne _ list).2.length = _
    rw [idsOne_length]
theorem matchG_len (rs : List RowG) (list : List ByteArray) : (matchG rs list).length = rs.length := by
  rw [matchG, matchOf, matchFrom_length, (ids2_len rs list).1]
theorem matchG_up (rs : List RowG) (list : List ByteArray) : Up list.length 0 (matchG rs list) := by
  have := match_up ((idsOf2 rs list).getD 0 []) ((idsOf2 rs list).getD 1 [])
  rwa [(ids2_len rs list).2] at this
theorem ids2_list (rs : List RowG) (list : List ByteArray) : idsOf2 rs list = [(idsOf2 rs list).getD 0 [], (idsOf2 rs list).getD 1 []] := rfl
theorem comeGo_good (col : Nat) (list : List ByteArray) : ∀ (ms : List Int) (rs : List RowG) (a : Nat), (∀ x ∈ rs, x.1.length = 16) → ∀ x ∈ comeGo col list ms rs a, x.1.length = 16
  | [], rs, a, h => by
    have : comeGo col list [] rs a = (list.drop a).map (oneRow col) := by cases rs <;> rfl
    rw [this]
    intro x hx
    obtain ⟨s, _, rfl⟩ := List.mem_map.1 hx
    simp [oneRow, noMarks]
  | m :: ms, [], a, h => by
    intro x hx
    obtain ⟨s, _, rfl⟩ := List.mem_map.1 hx
    simp [oneRow, noMarks]
  | m :: ms, y :: rs, a, h => by
    have ih := comeGo_good col list ms rs
    intro x hx
    have hy := h y List.mem_cons_self
    have hr : ∀ x ∈ rs, x.1.length = 16 := fun x hx => h x (List.mem_cons_of_mem _ hx)
    rw [comeGo] at hx
    split at hx
    · rcases List.mem_append.1 hx with hx | hx
      · obtain ⟨s, _, rfl⟩ := List.mem_map.1 hx
        simp [oneRow, noMarks]
      · rcases List.mem_cons.1 hx with rfl | hx
        · simpa using hy
        · exact ih _ hr x hx
    · rcases List.mem_cons.1 hx with rfl | hx
      · exact hy
      · exact ih _ hr x hx
theorem comeGo_nil (col : Nat) (list : List ByteArray) (rs : List RowG) (a : Nat) : comeGo col list [] rs a = (list.drop a).map (oneRow col) := by cases rs <;> rfl
theorem comeGo_no (col : Nat) (list : List ByteArray) (ms : List Int) (x : RowG) (rs : List RowG) (a : Nat) : comeGo col list (-1 :: ms) (x :: rs) a = x :: comeGo col list ms rs a := by
  rw [comeGo, if_neg (by decide)]
theorem comeGo_yes (col : Nat) (list : List ByteArray) (k : Nat) (ms : List Int) (x : RowG) (rs : List RowG) (a : Nat) : comeGo col list ((k : Int) :: ms) (x :: rs) a = ((list.take k).drop a).map (oneRow col) ++ (x.1.set col 1, x.2) :: comeGo col list ms rs (k + 1) := by
  rw [comeGo, if_pos (by omega), Int.toNat_natCast]
theorem comeGo_len (col : Nat) (list : List ByteArray) : ∀ (ms : List Int) (rs : List RowG) (a : Nat), ms.length = rs.length → Up list.length a ms → (comeGo col list ms rs a).length ≤ rs.length + (list.length - a)
  | [], rs, a, h, _ => by
    rw [comeGo_nil]; simp
  | m :: ms, [], a, h, _ => by simp at h
  | m :: ms, y :: rs, a, h, hu => by
    have h' : ms.length = rs.length := by simpa using h
    rcases hu with ⟨rfl, hu⟩ | ⟨k, rfl, h1, h2, hu⟩
    · have := comeGo_len col list ms rs a h' hu
      rw [comeGo_no, List.length_cons, List.length_cons]; omega
    · have := comeGo_len col list ms rs (k + 1) h' hu
      rw [comeGo_yes]
      simp only [List.length_append, List.length_map, List.length_drop, List.length_take, List.length_cons]
      omega
theorem comeF_len (col : Nat) (list : List ByteArray) (rs : List RowG) : (comeF col list rs).length ≤ rs.length + list.length := by
  have := comeGo_len col list _ rs 0 (matchG_len rs list) (matchG_up rs list)
  rw [comeF]; omega
end Go.Proofs.Ytnlekganlliikaa.X
