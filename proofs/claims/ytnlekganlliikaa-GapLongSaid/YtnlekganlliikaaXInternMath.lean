/-
  Numbers of texts: plain Lean.
-/
import Derived.Test.YtnlekganlliikaaX0
namespace Go.Proofs.Ytnlekganlliikaa.X
set_option linter.unusedVariables false
set_option linter.unusedSimpArgs false

/-- Where a text stands first; behind all, if it doesn't. -/
def place (s : ByteArray) : List ByteArray → Nat
  | [] => 0
  | x :: xs => if x = s then 0 else place s xs + 1
/-- A table, and one text more, if it is new. -/
def addT (t : List ByteArray) (s : ByteArray) : List ByteArray := if place s t < t.length then t else t ++ [s]
theorem place_le (s : ByteArray) : ∀ t, place s t ≤ t.length
  | [] => Nat.le_refl _
  | x :: xs => by
    have := place_le s xs
    simp only [place, List.length_cons]
    split <;> omega
theorem place_get (s : ByteArray) : ∀ {t : List ByteArray} (h : place s t < t.length), t[place s t] = s
  | [], h => by simp [place] at h
  | x :: xs, h => by
    by_cases e : x = s
    · simp [place, e]
    · have h' : place s xs < xs.length := by simpa [place, e] using h
      simp only [place, e, if_false, List.getElem_cons_succ]
      exact place_get s h'
theorem place_mem (s : ByteArray) : ∀ {t : List ByteArray}, s ∈ t ↔ place s t < t.length
  | [] => by simp [place]
  | x :: xs => by
    by_cases e : x = s
    · simp [place, e]
    · have e' : ¬ s = x := fun h => e h.symm
      simp [place, e, e', place_mem s (t := xs)]
theorem place_append (s : ByteArray) : ∀ {t : List ByteArray} (u : List ByteArray), place s t < t.length → place s (t ++ u) = place s t
  | [], u, h => by simp [place] at h
  | x :: xs, u, h => by
    by_cases e : x = s
    · simp [place, e]
    · have h' : place s xs < xs.length := by simpa [place, e] using h
      simp [place, e, place_append s u h']
theorem place_new (s : ByteArray) : ∀ {t : List ByteArray} (u : List ByteArray), ¬ place s t < t.length → place s (t ++ s :: u) = t.length
  | [], u, h => by simp [place]
  | x :: xs, u, h => by
    by_cases e : x = s
    · simp [place, e] at h
    · have h' : ¬ place s xs < xs.length := by simpa [place, e] using h
      simp [place, e, place_new s u h']
theorem place_not {s : ByteArray} {t : List ByteArray} (h : ¬ place s t < t.length) : place s t = t.length := by
  have := place_le s t; omega
theorem addT_length (t : List ByteArray) (s : ByteArray) : t.length ≤ (addT t s).length ∧ (addT t s).length ≤ t.length + 1 := by
  unfold addT; split <;> simp
/-- The numbers of some texts, and the table then. -/
def idsOne : List ByteArray → List ByteArray → List ByteArray × List Int
  | t, [] => (t, [])
  | t, s :: l => ((idsOne (addT t s) l).1, (place s t : Int) :: (idsOne (addT t s) l).2)
def idsMany : List ByteArray → List (List ByteArray) → List (List Int)
  | _, [] => []
  | t, l :: ls => (idsOne t l).2 :: idsMany (idsOne t l).1 ls
/-- The numbers of all texts of some files. -/
def idsAll (files : List (List ByteArray)) : List (List Int) := idsMany [] files
theorem idsOne_length : ∀ (t l : List ByteArray), (idsOne t l).2.length = l.length
  | t, [] => rfl
  | t, s :: l => by simp [idsOne, idsOne_length (addT t s) l]
theorem idsOne_snoc : ∀ (t l : List ByteArray) (s : ByteArray), idsOne t (l ++ [s]) = (addT (idsOne t l).1 s, (idsOne t l).2 ++ [(place s (idsOne t l).1 : Int)])
  | t, [], s => by simp [idsOne]
  | t, x :: l, s => by simp [idsOne, idsOne_snoc (addT t x) l s]
theorem idsOne_table_le : ∀ (t l : List ByteArray), (idsOne t l).1.length ≤ t.length + l.length
  | t, [] => by simp [idsOne]
  | t, s :: l => by
    have h1 := idsOne_table_le (addT t s) l
    have h2 := (addT_length t s).2
    simp only [idsOne, List.length_cons]; omega
theorem idsMany_length : ∀ (t : List ByteArray) (ls : List (List ByteArray)), (idsMany t ls).length = ls.length
  | _, [] => rfl
  | t, l :: ls => by simp [idsMany, idsMany_length (idsOne t l).1 ls]
/-- The table behind some files. -/
def tabOf : List ByteArray → List (List ByteArray) → List ByteArray
  | t, [] => t
  | t, l :: ls => tabOf (idsOne t l).1 ls
theorem tabOf_snoc : ∀ (t : List ByteArray) (ls : List (List ByteArray)) (l : List ByteArray), tabOf t (ls ++ [l]) = (idsOne (tabOf t ls) l).1
  | t, [], l => rfl
  | t, x :: ls, l => tabOf_snoc (idsOne t x).1 ls l
theorem idsMany_snoc : ∀ (t : List ByteArray) (ls : List (List ByteArray)) (l : List ByteArray), idsMany t (ls ++ [l]) = idsMany t ls ++ [(idsOne (tabOf t ls) l).2]
  | t, [], l => rfl
  | t, x :: ls, l => by simp [idsMany, tabOf, idsMany_snoc (idsOne t x).1 ls l]
end Go.Proofs.Ytnlekganlliikaa.X
