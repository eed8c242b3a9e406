/-
  Lines: plain Lean, more: the last line, open or not; how many; one text behind another.
-/
import Derived.Test.YtkakcefekabmhaaXLinesMath
namespace Go.Proofs.Ytkakcefekabmhaa.X
set_option linter.unusedVariables false
set_option linter.unusedSimpArgs false
theorem cutU_ne {u : List UInt8} (h : u ≠ []) : u.take (cutU u) ≠ [] := by
  have := cutU_pos h
  have h2 : 0 < u.length := List.length_pos_iff.2 h
  intro e
  have := congrArg List.length e
  rw [List.length_take, List.length_nil] at this
  omega
theorem linesU_ne {u : List UInt8} (h : u ≠ []) : linesU u ≠ [] := by
  rw [linesU_cons h]; simp
theorem drop_lt {u : List UInt8} (h : (10 : UInt8) ∈ u) (hd : u.drop (cutU u) = []) : u.getLast? = some 10 := by
  induction u with
  | nil => simp at h
  | cons x xs ih =>
    simp only [cutU] at hd
    by_cases e : x = 10
    · rw [if_pos e] at hd
      have : xs = [] := by simpa using hd
      subst this; subst e; rfl
    · rw [if_neg e] at hd
      have h' : (10 : UInt8) ∈ xs := by
        rcases List.mem_cons.1 h with h | h
        · exact absurd h.symm e
        · exact h
      have := ih h' (by simpa using hd)
      rw [List.getLast?_cons, this]; rfl
theorem last_no {u : List UInt8} (h : ¬ (10 : UInt8) ∈ u) : ¬ u.getLast? = some 10 := fun e => h (List.mem_of_getLast? e)
theorem getLast?_drop' {u : List UInt8} {k : Nat} (h : u.drop k ≠ []) : (u.drop k).getLast? = u.getLast? := by
  conv => rhs; rw [← List.take_append_drop k u]
  rw [List.getLast?_append]
  cases e : (u.drop k).getLast? with
  | none => exact absurd (List.getLast?_eq_none_iff.1 e) h
  | some x => rfl
theorem lastOpen_cons (s : List UInt8) {l : List (List UInt8)} (h : l ≠ []) : lastOpen (s :: l) = lastOpen l := by
  unfold lastOpen
  rw [List.getLast?_cons]
  cases e : l.getLast? with
  | none => exact absurd (List.getLast?_eq_none_iff.1 e) h
  | some x => rfl
theorem lastOpen_one (s : List UInt8) : lastOpen [s] = decide (¬ s.getLast? = some 10) := rfl
theorem lastOpen_lines (u : List UInt8) : lastOpen (linesU u) = decide (u ≠ [] ∧ ¬ u.getLast? = some 10) := by
  induction u using linesU_ind with
  | h0 => rw [linesU_nil]; rfl
  | h1 u h ih =>
    rw [linesU_cons h]
    by_cases hd : u.drop (cutU u) = []
    · rw [hd, linesU_nil, lastOpen_one]
      have ht : u.take (cutU u) = u := by
        have := List.take_append_drop (cutU u) u
        rwa [hd, List.append_nil] at this
      rw [ht]
      simp [h]
    · rw [lastOpen_cons _ (linesU_ne hd), ih, getLast?_drop' hd]
      simp only [ne_eq, hd, h, not_false_eq_true, true_and]
theorem count_take {u : List UInt8} : (u.take (cutU u)).count 10 = if (10 : UInt8) ∈ u then 1 else 0 := by
  induction u with
  | nil => simp
  | cons x xs ih =>
    simp only [cutU]
    by_cases e : x = 10
    · simp [e]
    · have e' : ¬ (10 : UInt8) = x := fun h => e h.symm
      simp only [e, if_false, List.take_succ_cons, List.count_cons, ih, List.mem_cons, e', false_or]
      simp [e]
theorem lines_length (u : List UInt8) : (linesU u).length = u.count 10 + if lastOpen (linesU u) = true then 1 else 0 := by
  induction u using linesU_ind with
  | h0 => rw [linesU_nil]; rfl
  | h1 u h ih =>
    have hc : u.count 10 = (u.take (cutU u)).count 10 + (u.drop (cutU u)).count 10 := by
      rw [← List.count_append, List.take_append_drop]
    rw [hc, count_take, linesU_cons h, List.length_cons, ih]
    by_cases hm : (10 : UInt8) ∈ u
    · rw [if_pos hm]
      by_cases hd : u.drop (cutU u) = []
      · rw [hd, linesU_nil, lastOpen_one]
        have ht : u.take (cutU u) = u := by
          have := List.take_append_drop (cutU u) u
          rwa [hd, List.append_nil] at this
        rw [ht, drop_lt hm hd]
        simp [lastOpen]
      · rw [lastOpen_cons _ (linesU_ne hd)]
        omega
    · have hd : u.drop (cutU u) = [] := by rw [cutU_no hm, List.drop_length]
      have ht : u.take (cutU u) = u := by rw [cutU_no hm, List.take_length]
      rw [if_neg hm, hd, linesU_nil, lastOpen_one, ht, decide_eq_true (last_no hm)]
      simp [lastOpen]
theorem lines_append_closed {a : List UInt8} (b : List UInt8) (h : lastOpen (linesU a) = false) : linesU (a ++ b) = linesU a ++ linesU b := by
  induction a using linesU_ind with
  | h0 => rw [linesU_nil]; rfl
  | h1 u hu ih =>
    have hm : (10 : UInt8) ∈ u := by
      rw [lastOpen_lines] at h
      have h := of_decide_eq_false h
      rcases Decidable.em ((10 : UInt8) ∈ u) with hm | hm
      · exact hm
      · exact absurd ⟨hu, last_no hm⟩ h
    have hne : u ++ b ≠ [] := by simp [hu]
    have hc : cutU (u ++ b) = cutU u := by rw [cutU_append, if_pos hm]
    rw [linesU_cons hne, hc, List.take_append_of_le_length (cutU_le u), List.drop_append_of_le_length (cutU_le u), linesU_cons hu]
    by_cases hd : u.drop (cutU u) = []
    · rw [hd, linesU_nil]; rfl
    · rw [linesU_cons hu, lastOpen_cons _ (linesU_ne hd)] at h
      rw [ih h]; rfl
/-- What stands behind an open line goes on it. -/
def glue (k l : List (List UInt8)) : List (List UInt8) := match l with | [] => k | y :: ys => k.dropLast ++ ((k.getLast?.getD []) ++ y) :: ys
theorem glue_cons (s : List UInt8) {k : List (List UInt8)} (h : k ≠ []) (l : List (List UInt8)) : glue (s :: k) l = s :: glue k l := by
  cases l with
  | nil => rfl
  | cons y ys =>
    obtain ⟨z, hz⟩ : ∃ z, k.getLast? = some z := by
      cases e : k.getLast? with
      | none => exact absurd (List.getLast?_eq_none_iff.1 e) h
      | some x => exact ⟨x, rfl⟩
    simp only [glue, List.dropLast_cons_of_ne_nil h, List.getLast?_cons, hz, List.cons_append, Option.getD_some]
theorem lines_append_open {a : List UInt8} (b : List UInt8) (h : lastOpen (linesU a) = true) : linesU (a ++ b) = glue (linesU a) (linesU b) := by
  induction a using linesU_ind with
  | h0 => rw [linesU_nil] at h; cases h
  | h1 u hu ih =>
    have hne : u ++ b ≠ [] := by simp [hu]
    by_cases hm : (10 : UInt8) ∈ u
    · have hc : cutU (u ++ b) = cutU u := by rw [cutU_append, if_pos hm]
      rw [linesU_cons hne, hc, List.take_append_of_le_length (cutU_le u), List.drop_append_of_le_length (cutU_le u), linesU_cons hu]
      by_cases hd : u.drop (cutU u) = []
      · rw [lastOpen_lines] at h
        exact absurd (drop_lt hm hd) (of_decide_eq_true h).2
      · rw [linesU_cons hu, lastOpen_cons _ (linesU_ne hd)] at h
        rw [ih h, glue_cons _ (linesU_ne hd)]
    · have hl : linesU u = [u] := by
        rw [linesU_cons hu, cutU_no hm, List.take_length, List.drop_length, linesU_nil]
      rw [hl]
      by_cases hb : b = []
      · subst hb
        rw [List.append_nil, linesU_nil, hl]; rfl
      · rw [linesU_cons hne, cutU_append, if_neg hm, linesU_cons hb]
        have : (u ++ b).take (u.length + cutU b) = u ++ b.take (cutU b) := by rw [List.take_append, List.take_of_length_le (by omega)]; simp
        have h2 : (u ++ b).drop (u.length + cutU b) = b.drop (cutU b) := by rw [List.drop_append, List.drop_of_length_le (by omega)]; simp
        rw [this, h2]
        rfl
/-- Closed by its feeds. -/
theorem closed_iff (s : List UInt8) : closedU s = (decide (s.count 10 = 1) && decide (s.getLast? = some 10)) := by
  induction s with
  | nil => rfl
  | cons x xs ih =>
    by_cases e : x = 10
    · subst e
      simp only [closedU, cutU, List.mem_cons, true_or, if_true, true_and, List.length_cons, List.count_cons_self]
      cases xs with
      | nil => rfl
      | cons y ys =>
        have h1 : ¬ (1 = (y :: ys).length + 1) := by simp
        rw [decide_eq_false h1]
        by_cases hc : (y :: ys).count 10 = 0
        · have : ¬ (10 : UInt8) ∈ (y :: ys) := List.count_eq_zero.1 hc
          rw [List.getLast?_cons_cons, decide_eq_false (last_no this)]; simp
        · rw [decide_eq_false (by omega)]; rfl
    · have e' : ¬ (10 : UInt8) = x := fun h => e h.symm
      have hcl : closedU (x :: xs) = closedU xs := by
        simp only [closedU, cutU, e, e', if_false, List.mem_cons, false_or, List.length_cons]
        congr 1
        simp
      rw [hcl, ih, List.count_cons_of_ne e]
      cases xs with
      | nil => rfl
      | cons y ys => rw [List.getLast?_cons_cons]
theorem open_iff (s : List UInt8) : openU s = (decide (0 < s.length) && decide (s.count 10 = 0)) := by
  simp only [openU, List.count_eq_zero, List.length_pos_iff]
  simp
end Go.Proofs.Ytkakcefekabmhaa.X
