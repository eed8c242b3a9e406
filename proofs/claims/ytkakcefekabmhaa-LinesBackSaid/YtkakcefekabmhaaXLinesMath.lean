/-
  Lines: plain Lean. Bytes as lines (each with its line feed but for the last one, that may be open); lists of texts that may be.
-/
import Derived.Lib.Bytealg
import Derived.Lib.Bytes
import Derived.Laws.BytesArg
namespace Go.Proofs.Ytkakcefekabmhaa.X
set_option linter.unusedVariables false
set_option linter.unusedSimpArgs false

/-- How long the first line is, its line feed with it. -/
def cutU : List UInt8 → Nat
  | [] => 0
  | x :: xs => if x = 10 then 1 else cutU xs + 1
theorem cutU_le : ∀ u : List UInt8, cutU u ≤ u.length
  | [] => Nat.le_refl _
  | x :: xs => by
    have := cutU_le xs
    simp only [cutU, List.length_cons]
    split <;> omega
theorem cutU_pos : ∀ {u : List UInt8}, u ≠ [] → 0 < cutU u
  | [], h => absurd rfl h
  | x :: xs, _ => by
    simp only [cutU]
    split <;> omega
/-- The lines. -/
def linesU (u : List UInt8) : List (List UInt8) :=
  if h : u = [] then [] else u.take (cutU u) :: linesU (u.drop (cutU u))
  termination_by u.length
  decreasing_by
    have := cutU_pos h
    have : 0 < u.length := List.length_pos_iff.2 h
    rw [List.length_drop]
    omega
theorem linesU_nil : linesU [] = [] := by unfold linesU; rfl
theorem linesU_cons {u : List UInt8} (h : u ≠ []) : linesU u = u.take (cutU u) :: linesU (u.drop (cutU u)) := by
  rw [linesU, dif_neg h]
theorem linesU_ind {P : List UInt8 → Prop} (h0 : P []) (h1 : ∀ u, u ≠ [] → P (u.drop (cutU u)) → P u) (u : List UInt8) : P u := by
  by_cases h : u = []
  · rw [h]; exact h0
  · refine h1 u h (linesU_ind h0 h1 _)
  termination_by u.length
  decreasing_by
    have := cutU_pos h
    have : 0 < u.length := List.length_pos_iff.2 h
    rw [List.length_drop]
    omega
theorem linesU_flatten (u : List UInt8) : (linesU u).flatten = u := by
  induction u using linesU_ind with
  | h0 => rw [linesU_nil]; rfl
  | h1 u h ih => rw [linesU_cons h, List.flatten_cons, ih, List.take_append_drop]

/-- A text that is one line: its only line feed is its last byte; or it is open. -/
theorem cutU_append (s t : List UInt8) : cutU (s ++ t) = if (10 : UInt8) ∈ s then cutU s else s.length + cutU t := by
  induction s with
  | nil => simp [cutU]
  | cons x xs ih =>
    simp only [List.cons_append, cutU, List.mem_cons, List.length_cons]
    by_cases e : x = 10
    · simp [e]
    · have e' : ¬ (10 : UInt8) = x := fun h => e h.symm
      simp only [e, e', if_false, false_or, ih]
      split <;> omega
theorem cutU_no {s : List UInt8} (h : ¬ (10 : UInt8) ∈ s) : cutU s = s.length := by
  have := cutU_append s []
  rw [List.append_nil, if_neg h] at this
  simpa [cutU] using this
theorem cutU_take (u : List UInt8) : cutU (u.take (cutU u)) = cutU u := by
  induction u with
  | nil => rfl
  | cons x xs ih =>
    simp only [cutU]
    by_cases e : x = 10
    · simp [e, cutU]
    · simp only [e, if_false, List.take_succ_cons, cutU, ih]
/-- Closed: a line feed behind, and none within. -/
def closedU (s : List UInt8) : Bool := decide ((10 : UInt8) ∈ s ∧ cutU s = s.length)
/-- Open: no line feed, and not empty. -/
def openU (s : List UInt8) : Bool := decide (s ≠ [] ∧ ¬ (10 : UInt8) ∈ s)
/-- Texts that may be lines. -/
def mayU : List (List UInt8) → Bool
  | [] => true
  | [s] => closedU s || openU s
  | s :: t => closedU s && mayU t
theorem mem_take {u : List UInt8} (h : (10 : UInt8) ∈ u) : (10 : UInt8) ∈ u.take (cutU u) := by
  induction u with
  | nil => simp at h
  | cons x xs ih =>
    simp only [cutU]
    by_cases e : x = 10
    · simp [e]
    · have h' : (10 : UInt8) ∈ xs := by
        rcases List.mem_cons.1 h with h | h
        · exact absurd h.symm e
        · exact h
      simp only [e, if_false, List.take_succ_cons]
      exact List.mem_cons_of_mem _ (ih h')
theorem take_closed {u : List UInt8} (h : (10 : UInt8) ∈ u) : closedU (u.take (cutU u)) = true := by
  have hm := mem_take h
  simp only [closedU, decide_eq_true_eq]
  refine ⟨hm, ?_⟩
  rw [cutU_take, List.length_take, Nat.min_eq_left (cutU_le u)]
theorem mayU_cons (s : List UInt8) {t : List (List UInt8)} (h : t ≠ []) : mayU (s :: t) = (closedU s && mayU t) := by
  cases t with
  | nil => exact absurd rfl h
  | cons _ _ => rfl
theorem linesU_may (u : List UInt8) : mayU (linesU u) = true := by
  induction u using linesU_ind with
  | h0 => rw [linesU_nil]; rfl
  | h1 u h ih =>
    rw [linesU_cons h]
    by_cases hm : (10 : UInt8) ∈ u
    · have hc := take_closed hm
      by_cases hr : linesU (u.drop (cutU u)) = []
      · rw [hr]; simp [mayU, hc]
      · rw [mayU_cons _ hr, hc, ih]; rfl
    · rw [cutU_no hm, List.take_length, List.drop_length, linesU_nil]
      simp [mayU, openU, h, hm]
theorem linesU_of_may : ∀ {l : List (List UInt8)}, mayU l = true → linesU l.flatten = l
  | [], _ => linesU_nil
  | [s], h => by
    have hs : s ≠ [] ∧ cutU s = s.length := by
      simp only [mayU, Bool.or_eq_true, closedU, openU, decide_eq_true_eq] at h
      rcases h with ⟨h1, h2⟩ | ⟨h1, h2⟩
      · exact ⟨fun e => by rw [e] at h1; simp at h1, h2⟩
      · exact ⟨h1, cutU_no h2⟩
    rw [show [s].flatten = s by simp, linesU_cons hs.1, hs.2, List.take_length, List.drop_length, linesU_nil]
  | s :: s2 :: t, h => by
    rw [mayU_cons _ (by simp), Bool.and_eq_true] at h
    obtain ⟨h1, h2⟩ := h
    simp only [closedU, decide_eq_true_eq] at h1
    have hne : s ≠ [] := fun e => by rw [e] at h1; simp at h1
    have hc : cutU (s ++ (s2 :: t).flatten) = s.length := by rw [cutU_append, if_pos h1.1, h1.2]
    rw [List.flatten_cons, linesU_cons (by simp [hne]), hc, List.take_left, List.drop_left, linesU_of_may h2]
theorem may_iff (l : List (List UInt8)) : linesU l.flatten = l ↔ mayU l = true :=
  ⟨fun h => by rw [← h]; exact linesU_may _, linesU_of_may⟩

/-- Whether the last text is open. -/
def lastOpen (l : List (List UInt8)) : Bool := match l.getLast? with | none => false | some s => decide (¬ s.getLast? = some 10)

/-- The first index of a line feed, as the library tells it. -/
theorem index_cut (u : List UInt8) : (Lib.indexByte u 10 = -1 ∧ cutU u = u.length) ∨ (0 ≤ Lib.indexByte u 10 ∧ Lib.indexByte u 10 + 1 = (cutU u : Int)) := by
  induction u with
  | nil => exact .inl ⟨rfl, rfl⟩
  | cons x xs ih =>
    simp only [Lib.indexByte, cutU]
    by_cases e : x = 10
    · right; simp [e]
    · have e' : (x == 10) = false := by simp [e]
      rw [if_neg (by rw [e']; decide), if_neg e]
      rcases ih with ⟨h1, h2⟩ | ⟨h1, h2⟩
      · left
        rw [h1]
        simp [h2]
      · right
        rw [if_neg (by simp; omega)]
        constructor
        · omega
        · rw [h2]; omega

/-- A text of bytes. -/
def txt (u : List UInt8) : ByteArray := ⟨u.toArray⟩
theorem strOfNums_txt (xs : List Int) : strOfNums xs = txt (Lib.bytesOf xs) := rfl
theorem txt_toList (s : ByteArray) : txt s.data.toList = s := by
  cases s; simp [txt]
theorem toList_txt (u : List UInt8) : (txt u).data.toList = u := by simp [txt]
theorem bytesOf_take (xs : List Int) (n : Nat) : Lib.bytesOf (xs.take n) = (Lib.bytesOf xs).take n := by simp [Lib.bytesOf]
theorem bytesOf_drop (xs : List Int) (n : Nat) : Lib.bytesOf (xs.drop n) = (Lib.bytesOf xs).drop n := by simp [Lib.bytesOf]
theorem bytesOf_length (xs : List Int) : (Lib.bytesOf xs).length = xs.length := by simp [Lib.bytesOf]
/-- The lines of numbers. -/
def linesT (b : List Int) : List ByteArray := (linesU (Lib.bytesOf b)).map txt
theorem linesT_nil : linesT [] = [] := by simp [linesT, Lib.bytesOf, linesU_nil]
theorem linesT_cons {b : List Int} (h : b ≠ []) : linesT b = strOfNums (b.take (cutU (Lib.bytesOf b))) :: linesT (b.drop (cutU (Lib.bytesOf b))) := by
  have hu : Lib.bytesOf b ≠ [] := by simp [Lib.bytesOf, h]
  rw [linesT, linesU_cons hu, List.map_cons, strOfNums_txt, bytesOf_take, linesT, bytesOf_drop]
end Go.Proofs.Ytkakcefekabmhaa.X
