/-
  The longest common sequence of two lists of numbers: plain Lean, no program.
-/
import Derived.Test.YtnlekganlliikaaXPre
namespace Go.Proofs.Ytnlekganlliikaa.X

/-- How long the longest common sequence is. -/
def lcsL : List Int → List Int → Nat
  | [], _ => 0
  | _ :: _, [] => 0
  | x :: xs, y :: ys => if x = y then lcsL xs ys + 1 else max (lcsL xs (y :: ys)) (lcsL (x :: xs) ys)
  termination_by a b => a.length + b.length

@[simp] theorem lcsL_nil_left (b : List Int) : lcsL [] b = 0 := by unfold lcsL; rfl
@[simp] theorem lcsL_nil_right (a : List Int) : lcsL a [] = 0 := by cases a <;> (unfold lcsL; rfl)
theorem lcsL_cons (x y : Int) (xs ys : List Int) : lcsL (x :: xs) (y :: ys) = if x = y then lcsL xs ys + 1 else max (lcsL xs (y :: ys)) (lcsL (x :: xs) ys) := by
  rw [lcsL]

/-- What is done at two suffixes: 0 both are paired, 1 the first list's is passed over, 2 the second's. -/
def stepAt : List Int → List Int → Int
  | x :: xs, y :: ys => if x = y then 0 else if lcsL (x :: xs) ys ≤ lcsL xs (y :: ys) then 1 else 2
  | _, _ => 0

/-- The whole table, row by row. -/
def stepsOf (a b : List Int) : List Int := (List.range (a.length * b.length)).map fun k => stepAt (a.drop (k / b.length)) (b.drop (k % b.length))

/-- With which place of the second list each of the first one's is paired: from the place j on. -/
def matchFrom : List Int → List Int → Nat → List Int
  | [], _, _ => []
  | _ :: xs, [], j => -1 :: matchFrom xs [] j
  | x :: xs, y :: ys, j => if x = y then (j : Int) :: matchFrom xs ys (j + 1) else if lcsL (x :: xs) ys ≤ lcsL xs (y :: ys) then -1 :: matchFrom xs (y :: ys) j else matchFrom (x :: xs) ys (j + 1)
  termination_by a b _ => a.length + b.length

def matchOf (a b : List Int) : List Int := matchFrom a b 0

/-- Common sequences: the longest one is as long as told, and there is one. -/
theorem lcsL_le (a b s : List Int) : s.Sublist a → s.Sublist b → s.length ≤ lcsL a b := by
  match a, b with
  | [], b => intro h _; simp at h; simp [h]
  | x :: xs, [] => intro _ h; simp at h; simp [h]
  | x :: xs, y :: ys =>
    intro h h'
    rw [lcsL_cons]
    by_cases e : x = y
    · subst e
      rw [if_pos rfl]
      cases s with
      | nil => simp
      | cons z zs =>
        have h1 : zs.Sublist xs := by
          cases h with
          | cons _ h => exact (List.sublist_cons_self z zs).trans h
          | cons_cons _ h => exact h
        have h2 : zs.Sublist ys := by
          cases h' with
          | cons _ h => exact (List.sublist_cons_self z zs).trans h
          | cons_cons _ h => exact h
        have := lcsL_le xs ys zs h1 h2
        simp; omega
    · rw [if_neg e]
      cases h with
      | cons _ h => have := lcsL_le xs (y :: ys) s h h'; omega
      | cons_cons _ h =>
        cases h' with
        | cons _ h' => have := lcsL_le (x :: xs) ys _ (h.cons_cons x) h'; omega
        | cons_cons _ h' => exact absurd rfl e
  termination_by a.length + b.length

theorem lcsL_ex (a b : List Int) : ∃ s : List Int, s.Sublist a ∧ s.Sublist b ∧ s.length = lcsL a b := by
  match a, b with
  | [], b => exact ⟨[], by simp, by simp, by simp⟩
  | x :: xs, [] => exact ⟨[], by simp, by simp, by simp⟩
  | x :: xs, y :: ys =>
    rw [lcsL_cons]
    by_cases e : x = y
    · subst e
      rw [if_pos rfl]
      obtain ⟨s, h1, h2, h3⟩ := lcsL_ex xs ys
      exact ⟨x :: s, h1.cons_cons x, h2.cons_cons x, by simp [h3]⟩
    · rw [if_neg e]
      obtain ⟨s, h1, h2, h3⟩ := lcsL_ex xs (y :: ys)
      obtain ⟨s', h1', h2', h3'⟩ := lcsL_ex (x :: xs) ys
      rcases Nat.le_total (lcsL (x :: xs) ys) (lcsL xs (y :: ys)) with h | h
      · exact ⟨s, h1.cons x, h2, by omega⟩
      · exact ⟨s', h1', h2'.cons y, by omega⟩
  termination_by a.length + b.length

theorem lcsL_unique {a b : List Int} {n : Nat} (h1 : ∀ s : List Int, s.Sublist a → s.Sublist b → s.length ≤ n) (h2 : ∃ s : List Int, s.Sublist a ∧ s.Sublist b ∧ s.length = n) : lcsL a b = n := by
  obtain ⟨s, h3, h4, h5⟩ := lcsL_ex a b
  obtain ⟨t, h6, h7, h8⟩ := h2
  have := h1 s h3 h4
  have := lcsL_le a b t h6 h7
  omega

theorem lcsL_comm (a b : List Int) : lcsL a b = lcsL b a :=
  lcsL_unique (fun s h h' => lcsL_le b a s h' h) (let ⟨s, h1, h2, h3⟩ := lcsL_ex b a; ⟨s, h2, h1, h3⟩)

theorem lcsL_reverse (a b : List Int) : lcsL a.reverse b.reverse = lcsL a b :=
  lcsL_unique (fun s h h' => by
    have := lcsL_le a b s.reverse (by have := h.reverse; rwa [List.reverse_reverse] at this) (by have := h'.reverse; rwa [List.reverse_reverse] at this)
    simpa using this)
    (let ⟨s, h1, h2, h3⟩ := lcsL_ex a b; ⟨s.reverse, h1.reverse, h2.reverse, by simpa using h3⟩)

theorem lcsL_self (a : List Int) : lcsL a a = a.length :=
  lcsL_unique (fun _ h _ => h.length_le) ⟨a, List.Sublist.refl a, List.Sublist.refl a, rfl⟩

theorem lcsL_le_left (a b : List Int) : lcsL a b ≤ a.length := let ⟨_, h1, _, h3⟩ := lcsL_ex a b; h3 ▸ h1.length_le
theorem lcsL_le_right (a b : List Int) : lcsL a b ≤ b.length := let ⟨_, _, h1, h3⟩ := lcsL_ex a b; h3 ▸ h1.length_le
theorem lcsL_mono_left {a a' : List Int} (b : List Int) (h : a.Sublist a') : lcsL a b ≤ lcsL a' b := let ⟨s, h1, h2, h3⟩ := lcsL_ex a b; h3 ▸ lcsL_le a' b s (h1.trans h) h2
theorem lcsL_mono_right (a : List Int) {b b' : List Int} (h : b.Sublist b') : lcsL a b ≤ lcsL a b' := let ⟨s, h1, h2, h3⟩ := lcsL_ex a b; h3 ▸ lcsL_le a b' s h1 (h2.trans h)

theorem lcsL_step_left (x : Int) (a b : List Int) : lcsL (x :: a) b ≤ lcsL a b + 1 := by
  obtain ⟨s, h1, h2, h3⟩ := lcsL_ex (x :: a) b
  cases h1 with
  | cons _ h => have := lcsL_le a b s h h2; omega
  | @cons_cons s' _ _ h =>
    have := lcsL_le a b s' h ((List.sublist_cons_self x s').trans h2)
    simp at h3
    omega
theorem lcsL_step_right (y : Int) (a b : List Int) : lcsL a (y :: b) ≤ lcsL a b + 1 := by
  rw [lcsL_comm, lcsL_comm a b]; exact lcsL_step_left y b a

/-- What both begin with is paired. -/
theorem lcsL_append_left (s a b : List Int) : lcsL (s ++ a) (s ++ b) = s.length + lcsL a b := by
  induction s with
  | nil => simp
  | cons x s ih => rw [List.cons_append, List.cons_append, lcsL_cons, if_pos rfl, ih, List.length_cons]; omega
theorem lcsL_append_right (s a b : List Int) : lcsL (a ++ s) (b ++ s) = lcsL a b + s.length := by
  rw [← lcsL_reverse, List.reverse_append, List.reverse_append, lcsL_append_left, lcsL_reverse, List.length_reverse]; omega

/-- Two sequences of one list meet in as many as both are longer than it. -/
theorem sublists_meet (b s t : List Int) : s.Sublist b → t.Sublist b → ∃ u : List Int, u.Sublist s ∧ u.Sublist t ∧ s.length + t.length ≤ u.length + b.length := by
  induction b generalizing s t with
  | nil => intro h h'; simp at h h'; exact ⟨[], by simp, by simp, by simp [h, h']⟩
  | cons x b ih =>
    intro h h'
    cases h with
    | cons _ h =>
      cases h' with
      | cons _ h' => obtain ⟨u, h1, h2, h3⟩ := ih s t h h'; exact ⟨u, h1, h2, by simp; omega⟩
      | @cons_cons t' _ _ h' => obtain ⟨u, h1, h2, h3⟩ := ih s t' h h'; exact ⟨u, h1, h2.cons x, by simp; omega⟩
    | @cons_cons s' _ _ h =>
      cases h' with
      | cons _ h' => obtain ⟨u, h1, h2, h3⟩ := ih s' t h h'; exact ⟨u, h1.cons x, h2, by simp; omega⟩
      | @cons_cons t' _ _ h' => obtain ⟨u, h1, h2, h3⟩ := ih s' t' h h'; exact ⟨x :: u, h1.cons_cons x, h2.cons_cons x, by simp; omega⟩

theorem lcsL_between (a b c : List Int) : lcsL a b + lcsL b c ≤ lcsL a c + b.length := by
  obtain ⟨s, h1, h2, h3⟩ := lcsL_ex a b
  obtain ⟨t, h4, h5, h6⟩ := lcsL_ex b c
  obtain ⟨u, h7, h8, h9⟩ := sublists_meet b s t h2 h4
  have := lcsL_le a c u (h7.trans h1) (h8.trans h5)
  omega

/-! ### What is paired -/
theorem matchFrom_nil (b : List Int) (j : Nat) : matchFrom [] b j = [] := by unfold matchFrom; rfl
theorem matchFrom_none (x : Int) (xs : List Int) (j : Nat) : matchFrom (x :: xs) [] j = -1 :: matchFrom xs [] j := by rw [matchFrom]
theorem matchFrom_cons (x y : Int) (xs ys : List Int) (j : Nat) : matchFrom (x :: xs) (y :: ys) j = if x = y then (j : Int) :: matchFrom xs ys (j + 1) else if lcsL (x :: xs) ys ≤ lcsL xs (y :: ys) then -1 :: matchFrom xs (y :: ys) j else matchFrom (x :: xs) ys (j + 1) := by rw [matchFrom]
theorem matchFrom_rest (a : List Int) (j : Nat) : matchFrom a [] j = List.replicate a.length (-1) := by
  induction a with
  | nil => rw [matchFrom_nil]; rfl
  | cons x a ih => rw [matchFrom_none, ih]; rfl

theorem matchFrom_length (a b : List Int) (j : Nat) : (matchFrom a b j).length = a.length := by
  match a, b with
  | [], b => simp [matchFrom_nil]
  | x :: xs, [] => simp [matchFrom_rest]
  | x :: xs, y :: ys =>
    rw [matchFrom_cons]
    split
    · simp [matchFrom_length xs ys]
    · split
      · simp [matchFrom_length xs (y :: ys)]
      · exact matchFrom_length (x :: xs) ys _
  termination_by a.length + b.length

/-- All that is told of a match: each place is told -1, or one of b's, that holds the same; they rise; as many are as the longest. -/
def Rises (a b : List Int) (j : Nat) : List Int → Nat → Prop
  | [], n => n = 0 ∧ True
  | m :: ms, n => (m = -1 ∧ Rises a.tail b j ms n) ∨ (∃ k n', m = ((j + k : Nat) : Int) ∧ n = n' + 1 ∧ b[k]? = a.head? ∧ a ≠ [] ∧ Rises a.tail (b.drop (k + 1)) (j + k + 1) ms n')

theorem rises_shift {a b : List Int} {j : Nat} {y : Int} : ∀ {ms : List Int} {n : Nat}, ms.length = a.length → Rises a b (j + 1) ms n → Rises a (y :: b) j ms n := by
  intro ms
  induction ms generalizing a with
  | nil => intro n _ h; exact h
  | cons m ms ih =>
    intro n hl h
    rcases h with ⟨h1, h2⟩ | ⟨k, n', h1, h2, h3, h4, h5⟩
    · exact .inl ⟨h1, ih (by simp at hl ⊢; omega) h2⟩
    · exact .inr ⟨k + 1, n', by rw [h1]; congr 1; omega, h2, by simpa using h3, h4, by rw [show j + (k + 1) + 1 = j + 1 + k + 1 from by omega]; simpa using h5⟩

theorem matchFrom_rises (a b : List Int) (j : Nat) : Rises a b j (matchFrom a b j) (lcsL a b) := by
  match a, b with
  | [], b => rw [matchFrom_nil, lcsL_nil_left]; exact ⟨rfl, trivial⟩
  | x :: xs, [] =>
    rw [matchFrom_none, lcsL_nil_right]
    have := matchFrom_rises xs [] j
    rw [lcsL_nil_right] at this
    exact .inl ⟨rfl, this⟩
  | x :: xs, y :: ys =>
    rw [matchFrom_cons, lcsL_cons]
    by_cases e : x = y
    · subst e
      rw [if_pos rfl, if_pos rfl]
      exact .inr ⟨0, lcsL xs ys, by simp, rfl, by simp, by simp, by simpa using matchFrom_rises xs ys (j + 1)⟩
    · rw [if_neg e, if_neg e]
      by_cases h : lcsL (x :: xs) ys ≤ lcsL xs (y :: ys)
      · rw [if_pos h, Nat.max_eq_left h]
        exact .inl ⟨rfl, matchFrom_rises xs (y :: ys) j⟩
      · rw [if_neg h, Nat.max_eq_right (by omega)]
        exact rises_shift (matchFrom_length _ _ _) (matchFrom_rises (x :: xs) ys (j + 1))
  termination_by a.length + b.length
end Go.Proofs.Ytnlekganlliikaa.X
