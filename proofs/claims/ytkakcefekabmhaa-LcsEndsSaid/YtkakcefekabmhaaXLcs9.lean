/-
  The document's answer for the longest common sequence, and the laws' own functions, as what they tell: plain Lean.
-/
import Derived.Test.YtkakcefekabmhaaXAn2
import Derived.Test.YtkakcefekabmhaaXLcs7
namespace Go.Proofs.Ytkakcefekabmhaa.X
open Go.RowKit Go.Proofs.YtkakcefekabmhaaW.PrintWords Go.Proofs.YtkakcefekabmhaaW.PrintLast Go.Proofs.YtkakcefekabmhaaW.PrintMore
set_option linter.unusedVariables false
set_option linter.unusedSimpArgs false

/-- With rounds enough it tells r. -/
def Gives {α : Type} (f : Nat → Option α) (r : α) : Prop := ∃ K, ∀ k, K ≤ k → f k = some r
theorem w64 {x : Int} (h : -9223372036854775808 ≤ x) (h2 : x < 9223372036854775808) : wrap64 x = x := by
  unfold wrap64
  omega
theorem wi64 {x : Int} (h : -9223372036854775808 ≤ x) (h2 : x < 9223372036854775808) : IntKind.i64.wrap x = x := IntWalk.i64_in x ⟨h, by omega⟩
theorem rd_of {L : List Int} {i : Nat} {x : Int} (h : L[i]? = some x) : rd L (i : Int) = x := by
  simp [rd, h]
theorem rd_get {L : List Int} {i : Nat} (h : i < L.length) : rd L (i : Int) = L[i] := by
  simp [rd, h]

theorem turned_l0 (l : List Int) (hl : l.length ≤ 1000) : ∀ (i : Nat) (out : List Int) (k : Nat), i ≤ l.length → out.length + i ≤ 1000 → i + 1 ≤ k → sennitlaw03_turned.l0 k l out ((i : Int) - 1) = some (out ++ (l.take i).reverse)
  | 0, out, k + 1, _, _, _ => by
    rw [sennitlaw03_turned.l0, if_neg (by omega)]
    simp
  | i + 1, out, k + 1, hi, ho, hk => by
    have e : ((i + 1 : Nat) : Int) - 1 = (i : Int) := by omega
    rw [sennitlaw03_turned.l0, e, if_pos (by omega), if_pos (by omega), if_pos (by omega), if_pos (by omega), w64 (by omega) (by omega), turned_l0 l hl i _ k (by omega) (by simp; omega) (by omega), rd_get (by omega)]
    have ht : l.take (i + 1) = l.take i ++ [l[i]] := (List.take_append_getElem (by omega)).symm
    simp only [ht, List.reverse_append, List.append_assoc, List.reverse_cons, List.reverse_nil, List.nil_append]
theorem turned_gives (l : List Int) (hl : l.length ≤ 1000) : Gives (fun k => sennitlaw03_turned.f k l) l.reverse :=
  ⟨l.length + 1, fun k hk => by
    show sennitlaw03_turned.f k l = _
    rw [sennitlaw03_turned.f, w64 (by omega) (by omega), turned_l0 l hl l.length [] k (Nat.le_refl _) (by simp; omega) hk]
    simp⟩

theorem same_l0 (a b : List Int) (hl : a.length = b.length) (hm : a.length ≤ 1000000) : ∀ (r i k : Nat), i + r = a.length → r + 1 ≤ k → sennitref02_Same.l0 k a b (i : Int) = some (decide (a.drop i = b.drop i))
  | 0, i, k + 1, hi, _ => by
    rw [sennitref02_Same.l0, if_neg (by omega), List.drop_of_length_le (by omega), List.drop_of_length_le (by omega)]
    simp
  | r + 1, i, k + 1, hi, hk => by
    rw [sennitref02_Same.l0, if_pos (by omega), if_pos (by omega), if_pos (by omega), rd_get (by omega), rd_get (by omega)]
    have ha : a.drop i = a[i] :: a.drop (i + 1) := List.drop_eq_getElem_cons (by omega)
    have hb : b.drop i = b[i] :: b.drop (i + 1) := List.drop_eq_getElem_cons (by omega)
    by_cases e : a[i] = b[i]
    · rw [if_pos e, w64 (by omega) (by omega)]
      have := same_l0 a b hl hm r (i + 1) k (by omega) (by omega)
      rw [show ((i + 1 : Nat) : Int) = (i : Int) + 1 from by omega] at this
      rw [this]
      simp only [ha, hb, e, List.cons.injEq, true_and]
    · rw [if_neg e]
      simp only [ha, hb, e, List.cons.injEq, false_and, decide_false]
theorem same_gives (a b : List Int) (hm : a.length ≤ 1000000) : Gives (fun k => sennitref02_Same.f k a b) (decide (a = b)) :=
  ⟨a.length + 1, fun k hk => by
    show sennitref02_Same.f k a b = _
    rw [sennitref02_Same.f]
    by_cases h : a.length = b.length
    · rw [if_pos (by omega)]
      have := same_l0 a b h hm a.length 0 k (by omega) hk
      simpa using this
    · rw [if_neg (by omega)]
      have : ¬ a = b := fun e => h (by rw [e])
      simp [this]⟩

/-- The table, from the place (i, c) on; noughts ahead. -/
def Tab (a b : List Int) (i c : Nat) (T : List Int) : Prop :=
  T.length = (a.length + 1) * (b.length + 1) ∧ ∀ i' j', i' ≤ a.length → j' ≤ b.length → T[i' * (b.length + 1) + j']? = some (if i < i' ∨ i = i' ∧ c ≤ j' then ((lcsL (a.drop i') (b.drop j') : Nat) : Int) else 0)
section
variable {a b T : List Int}
theorem tab_place {n m i j : Nat} (hi : i ≤ n) (hj : j ≤ m) : i * (m + 1) + j < (n + 1) * (m + 1) := place_lt (by omega) (by omega)
theorem tab_ne {m i j i' j' : Nat} (hj : j ≤ m) (hj' : j' ≤ m) (h : i * (m + 1) + j = i' * (m + 1) + j') : i = i' ∧ j = j' := by
  have h1 := place_div (m := m + 1) (i := i) (j := j) (by omega)
  have h2 := place_div (m := m + 1) (i := i') (j := j') (by omega)
  rw [h] at h1
  exact ⟨h1.1.symm.trans h2.1, h1.2.symm.trans h2.2⟩
theorem Tab.start : Tab a b a.length (b.length) (List.replicate ((a.length + 1) * (b.length + 1)) 0) := by
  refine ⟨by simp, fun i' j' hi hj => ?_⟩
  rw [List.getElem?_replicate, if_pos (tab_place hi hj)]
  split
  · rename_i h
    have : a.drop i' = [] ∨ b.drop j' = [] := by
      rcases h with h | ⟨h, h2⟩
      · omega
      · exact .inl (List.drop_eq_nil_of_le (by omega))
    rcases this with h | h
    · rw [h]; simp [lcsL]
    · rw [h]
      cases a.drop i' <;> simp [lcsL]
  · rfl
/-- The row above: its last place is nought already. -/
theorem Tab.up {i : Nat} (h : Tab a b (i + 1) 0 T) : Tab a b i b.length T := by
  refine ⟨h.1, fun i' j' hi hj => ?_⟩
  rw [h.2 i' j' hi hj]
  congr 1
  by_cases e : i' = i
  · subst e
    rw [if_neg (by omega)]
    split
    · rename_i h2
      rw [show b.drop j' = [] from List.drop_of_length_le (by omega), lcsL_nil_right]
      rfl
    · rfl
  · by_cases e2 : i < i'
    · rw [if_pos (show i + 1 < i' ∨ i + 1 = i' ∧ 0 ≤ j' by omega), if_pos (show i < i' ∨ i = i' ∧ b.length ≤ j' by omega)]
    · rw [if_neg (show ¬ (i + 1 < i' ∨ i + 1 = i' ∧ 0 ≤ j') by omega), if_neg (show ¬ (i < i' ∨ i = i' ∧ b.length ≤ j') by omega)]
theorem Tab.first (h : Tab a b a.length b.length T) : Tab a b a.length 0 T := by
  refine ⟨h.1, fun i' j' hi hj => ?_⟩
  rw [h.2 i' j' hi hj]
  congr 1
  by_cases e : i' = a.length
  · subst e
    rw [if_pos (show a.length < a.length ∨ a.length = a.length ∧ 0 ≤ j' by omega), show a.drop a.length = [] from List.drop_of_length_le (by omega), lcsL_nil_left]
    split <;> rfl
  · rw [if_neg (show ¬ (a.length < i' ∨ a.length = i' ∧ b.length ≤ j') by omega), if_neg (show ¬ (a.length < i' ∨ a.length = i' ∧ 0 ≤ j') by omega)]
theorem Tab.put {i c : Nat} (h : Tab a b i (c + 1) T) (hi : i ≤ a.length) (hc : c ≤ b.length) : Tab a b i c (T.set (i * (b.length + 1) + c) ((lcsL (a.drop i) (b.drop c) : Nat) : Int)) := by
  refine ⟨by simpa using h.1, fun i' j' hi' hj' => ?_⟩
  by_cases e : i' = i ∧ j' = c
  · obtain ⟨rfl, rfl⟩ := e
    rw [List.getElem?_set_self (by rw [h.1]; exact tab_place hi hc), if_pos (by omega)]
  · rw [List.getElem?_set_ne (fun h2 => e (by have := tab_ne hc hj' h2; omega)), h.2 i' j' hi' hj']
    congr 1
    by_cases e2 : i < i' ∨ i = i' ∧ c + 1 ≤ j'
    · rw [if_pos e2, if_pos (by omega)]
    · rw [if_neg e2, if_neg (by omega)]
theorem Tab.at_ {i c i' j' : Nat} (h : Tab a b i c T) (hi : i' ≤ a.length) (hj : j' ≤ b.length) (hd : i < i' ∨ i = i' ∧ c ≤ j') : rd T ((i' : Int) * ((b.length : Int) + 1) + (j' : Int)) = ((lcsL (a.drop i') (b.drop j') : Nat) : Int) := by
  have := h.2 i' j' hi hj
  rw [if_pos hd] at this
  have e := rd_of this
  rw [← e]
  congr 1
end
theorem place64 {n m i j : Nat} (hn : n ≤ 100) (hm : m ≤ 100) (hi : i ≤ n) (hj : j ≤ m) : 0 ≤ (i : Int) * ((m : Int) + 1) ∧ (i : Int) * ((m : Int) + 1) + (j : Int) < ((n : Int) + 1) * ((m : Int) + 1) ∧ ((n : Int) + 1) * ((m : Int) + 1) ≤ 10201 := by
  have h1 := tab_place hi hj
  have h2 : (n + 1) * (m + 1) ≤ 101 * 101 := Nat.mul_le_mul (by omega) (by omega)
  have e1 : (i : Int) * ((m : Int) + 1) = ((i * (m + 1) : Nat) : Int) := by simp
  have e2 : ((n : Int) + 1) * ((m : Int) + 1) = (((n + 1) * (m + 1) : Nat) : Int) := by simp
  rw [e1, e2]
  omega

set_option maxHeartbeats 1000000 in
theorem rest_step (a b T : List Int) (w i c X0 X1 : Int) (k : Nat) (hX0 : i * w = X0) (hX1 : (i + 1) * w = X1) (h0 : 0 ≤ X0) (hw : X1 = X0 + w) (hw0 : 0 ≤ w) (hi : 0 ≤ i) (hia : i < a.length) (hc : 0 ≤ c) (hcb : c < b.length) (hcw : c + 1 < w) (hT : X1 + w ≤ T.length) (hT2 : (T.length : Int) ≤ 100000) (hs : (a.length : Int) ≤ 1000)
    (r1 r2 r3 : Int) (e1 : rd T (X1 + c) = r1) (e2 : rd T (X0 + c + 1) = r2) (e3 : rd T (X1 + c + 1) = r3) (h3 : 0 ≤ r3) (h3' : r3 ≤ 1000) :
    sennitref03_rest.l1 (k + 1) a b w T i c = sennitref03_rest.l1 k a b w (T.set (X0 + c).toNat (if rd a i = rd b c then mx (mx r1 r2) (r3 + 1) else mx r1 r2)) i (c - 1) := by
  have a1 : wrap64 (i + 1) = i + 1 := w64 (by omega) (by omega)
  have a2 : wrap64 X1 = X1 := w64 (by omega) (by omega)
  have a3 : wrap64 (X1 + c) = X1 + c := w64 (by omega) (by omega)
  have a4 : wrap64 X0 = X0 := w64 (by omega) (by omega)
  have a5 : wrap64 (X0 + c) = X0 + c := w64 (by omega) (by omega)
  have a6 : wrap64 (X0 + c + 1) = X0 + c + 1 := w64 (by omega) (by omega)
  have a7 : wrap64 (X1 + c + 1) = X1 + c + 1 := w64 (by omega) (by omega)
  have a8 : wrap64 (c - 1) = c - 1 := w64 (by omega) (by omega)
  have a9 : wrap64 (r3 + 1) = r3 + 1 := w64 (by omega) (by omega)
  have b0 : c ≥ 0 := hc
  have b1 : 0 ≤ X1 + c := by omega
  have b2 : X1 + c < T.length := by omega
  have b3 : 0 ≤ X0 + c + 1 := by omega
  have b4 : X0 + c + 1 < T.length := by omega
  have b5 : 0 ≤ X1 + c + 1 := by omega
  have b6 : X1 + c + 1 < T.length := by omega
  have b7 : 0 ≤ X0 + c := by omega
  have b8 : X0 + c < T.length := by omega
  rw [sennitref03_rest.l1, a1, hX1, hX0, a2, a3, a4, a5, a6, a7, a8, e1, e2, e3, a9]
  rw [if_pos b0, if_pos b1, if_pos b2, if_pos b3, if_pos b4, if_pos hi, if_pos hia, if_pos hc, if_pos hcb]
  by_cases eq : rd a i = rd b c
  · rw [if_pos eq, if_pos b5, if_pos b6, if_pos b7, if_pos b8, if_pos eq]
  · rw [if_neg eq, if_neg eq]
    rw [if_pos b7, if_pos b8]

theorem place_cast (i m j : Nat) : ((i : Int) * ((m : Int) + 1) + (j : Int)).toNat = i * (m + 1) + j := by
  have : (i : Int) * ((m : Int) + 1) = ((i * (m + 1) : Nat) : Int) := by simp
  rw [this]; omega

section
variable {a b : List Int}
theorem rest_l1 (ha : a.length ≤ 100) (hb : b.length ≤ 100) {i : Nat} (hi : i < a.length) : ∀ (c : Nat) (T : List Int), c ≤ b.length → Tab a b i c T →
    ∃ T', Tab a b i 0 T' ∧ ∀ k, sennitref03_rest.l1 (k + c + 1) a b ((b.length : Int) + 1) T (i : Int) ((c : Int) - 1) = sennitref03_rest.l0 k a b ((b.length : Int) + 1) T' ((i : Int) - 1)
  | 0, T, _, hT => ⟨T, hT, fun k => by
      rw [sennitref03_rest.l1, if_neg (by omega), w64 (by omega) (by omega)]⟩
  | c + 1, T, hc, hT => by
    obtain ⟨T', h1, h2⟩ := rest_l1 ha hb hi c _ (by omega) (hT.put (by omega) (by omega))
    refine ⟨T', h1, fun k => ?_⟩
    have L : (T.length : Int) = ((a.length : Int) + 1) * ((b.length : Int) + 1) := by rw [hT.1]; simp
    have p1 := place64 ha hb (i := i + 1) (j := b.length) (by omega) (by omega)
    have p4 := place64 ha hb (i := i) (j := c) (by omega) (by omega)
    have r1 := hT.at_ (i' := i + 1) (j' := c) (by omega) (by omega) (by omega)
    have r2 := hT.at_ (i' := i) (j' := c + 1) (by omega) (by omega) (by omega)
    have r3 := hT.at_ (i' := i + 1) (j' := c + 1) (by omega) (by omega) (by omega)
    have x1 : ((i + 1 : Nat) : Int) = (i : Int) + 1 := by omega
    have x2 : ((c + 1 : Nat) : Int) = (c : Int) + 1 := by omega
    have en := place_cast i b.length c
    rw [x1] at p1 r1 r3
    rw [x2, ← Int.add_assoc] at r2 r3
    have hX : ((i : Int) + 1) * ((b.length : Int) + 1) = (i : Int) * ((b.length : Int) + 1) + ((b.length : Int) + 1) := by rw [Int.add_mul, Int.one_mul]
    have xa : a[i]? = some a[i] := List.getElem?_eq_getElem hi
    have xb : b[c]? = some b[c] := List.getElem?_eq_getElem (by omega)
    have q1 := lcsL_le_left (a.drop (i + 1)) (b.drop (c + 1))
    rw [List.length_drop] at q1
    obtain ⟨X0, hX0⟩ : ∃ X0, (i : Int) * ((b.length : Int) + 1) = X0 := ⟨_, rfl⟩
    obtain ⟨X1, hX1⟩ : ∃ X1, ((i : Int) + 1) * ((b.length : Int) + 1) = X1 := ⟨_, rfl⟩
    obtain ⟨LL, hLL⟩ : ∃ LL, ((a.length : Int) + 1) * ((b.length : Int) + 1) = LL := ⟨_, rfl⟩
    rw [hX0] at p4 r2 hX en
    rw [hX1] at p1 r1 r3 hX
    rw [hLL] at p1 p4 L
    have st := rest_step a b T ((b.length : Int) + 1) i c X0 X1 (k + c + 1) hX0 hX1 (by omega) hX (by omega) (by omega) (by omega) (by omega) (by omega) (by omega) (by omega) (by omega) (by omega) _ _ _ r1 r2 r3 (by omega) (by omega)
    rw [show k + (c + 1) + 1 = k + c + 1 + 1 from by omega, show ((c + 1 : Nat) : Int) - 1 = (c : Int) from by omega, st, ← h2 k, en, rd_of xa, rd_of xb]
    congr 2
    have s1 := lcsL_step_left a[i] (a.drop (i + 1)) (b.drop (c + 1))
    have s2 := lcsL_step_right b[c] (a.drop (i + 1)) (b.drop (c + 1))
    rw [← drop_cons' xa] at s1
    rw [← drop_cons' xb] at s2
    by_cases eq : a[i] = b[c]
    · rw [if_pos eq, lcs_eq xa xb eq]
      simp only [mx]
      split <;> split <;> omega
    · rw [if_neg eq, lcs_ne xa xb eq]
      simp only [mx]
      split <;> omega

theorem rest_l0 (ha : a.length ≤ 100) (hb : b.length ≤ 100) : ∀ (r : Nat) (T : List Int), r ≤ a.length → Tab a b r 0 T →
    ∃ T', Tab a b 0 0 T' ∧ ∀ k, r * (b.length + 2) + 1 ≤ k → sennitref03_rest.l0 k a b ((b.length : Int) + 1) T ((r : Int) - 1) = some T'
  | 0, T, _, hT => ⟨T, hT, fun k hk => by
      obtain ⟨k, rfl⟩ : ∃ k', k = k' + 1 := ⟨k - 1, by omega⟩
      rw [sennitref03_rest.l0, if_neg (by omega)]⟩
  | r + 1, T, hr, hT => by
    obtain ⟨T1, h1, h2⟩ := rest_l1 ha hb (i := r) (by omega) b.length T (Nat.le_refl _) hT.up
    obtain ⟨T', h3, h4⟩ := rest_l0 ha hb r T1 (by omega) h1
    refine ⟨T', h3, fun k hk => ?_⟩
    rw [Nat.succ_mul] at hk
    obtain ⟨k, rfl⟩ : ∃ k', k = k' + b.length + 1 + 1 := ⟨k - b.length - 2, by omega⟩
    rw [sennitref03_rest.l0, if_pos (by omega), w64 (by omega) (by omega), show ((r + 1 : Nat) : Int) - 1 = (r : Int) from by omega, h2 k]
    exact h4 k (by omega)

theorem rest_gives (ha : a.length ≤ 100) (hb : b.length ≤ 100) : ∃ T, Tab a b 0 0 T ∧ Gives (fun k => sennitref03_rest.f k a b) T := by
  obtain ⟨T, h1, h2⟩ := rest_l0 ha hb a.length _ (Nat.le_refl _) (Tab.start (a := a) (b := b)).first
  refine ⟨T, h1, a.length * (b.length + 2) + 1, fun k hk => ?_⟩
  have p := place64 ha hb (i := 0) (j := 0) (by omega) (by omega)
  have e : (((a.length : Int) + 1) * ((b.length : Int) + 1)).toNat = (a.length + 1) * (b.length + 1) := by
    rw [← Int.natCast_one, ← Int.natCast_add, ← Int.natCast_add, ← Int.natCast_mul, Int.toNat_natCast]
  show sennitref03_rest.f k a b = _
  have w1 : wrap64 ((a.length : Int) + 1) = (a.length : Int) + 1 := w64 (by omega) (by omega)
  have w2 : wrap64 ((b.length : Int) + 1) = (b.length : Int) + 1 := w64 (by omega) (by omega)
  have w3 : wrap64 ((a.length : Int) - 1) = (a.length : Int) - 1 := w64 (by omega) (by omega)
  have hm : (a.length + 1) * (b.length + 1) ≤ 101 * 101 := Nat.mul_le_mul (by omega) (by omega)
  have w4 : wrap64 (((a.length : Int) + 1) * ((b.length : Int) + 1)) = ((a.length : Int) + 1) * ((b.length : Int) + 1) := by
    obtain ⟨LL, hLL⟩ : ∃ LL, ((a.length : Int) + 1) * ((b.length : Int) + 1) = LL := ⟨_, rfl⟩
    rw [hLL] at p ⊢
    exact w64 (by omega) (by omega)
  rw [sennitref03_rest.f, w1, w2, w3, w4, e]
  have h0 : 0 ≤ ((a.length : Int) + 1) * ((b.length : Int) + 1) := by
    obtain ⟨LL, hLL⟩ : ∃ LL, ((a.length : Int) + 1) * ((b.length : Int) + 1) = LL := ⟨_, rfl⟩
    rw [hLL] at p ⊢
    omega
  rw [if_pos h0, if_pos (by omega)]
  exact h2 k hk

theorem len_gives (ha : a.length ≤ 100) (hb : b.length ≤ 100) : Gives (fun k => sennitref03_Len.f k a b) ((lcsL a b : Nat) : Int) := by
  obtain ⟨T, h1, K, h2⟩ := rest_gives ha hb
  refine ⟨K, fun k hk => ?_⟩
  show sennitref03_Len.f k a b = _
  rw [sennitref03_Len.f, show sennitref03_rest.f k a b = some T from h2 k hk, Option.bind_some]
  have hp : 0 < T.length := by rw [h1.1]; exact Nat.mul_pos (by omega) (by omega)
  have := h1.at_ (i' := 0) (j' := 0) (by omega) (by omega) (by omega)
  simp at this
  rw [if_pos (by omega), this]

set_option maxHeartbeats 1000000 in
theorem match_step (a b T : List Int) (w i j X0 X1 : Int) (out : List Int) (k : Nat) (hX0 : i * w = X0) (hX1 : (i + 1) * w = X1) (h0 : 0 ≤ X0) (hw : X1 = X0 + w) (hw0 : 0 ≤ w) (hi : 0 ≤ i) (hia : i < a.length) (hc : 0 ≤ j) (hcb : j < b.length) (hcw : j + 1 < w) (hT : X1 + w ≤ T.length) (hT2 : (T.length : Int) ≤ 100000) (hs : (a.length : Int) ≤ 1000) (ho : out.length < 17592186044416)
    (r1 r2 : Int) (e1 : rd T (X1 + j) = r1) (e2 : rd T (X0 + j + 1) = r2) :
    sennitref03_Match.l1 (k + 1) a b T w out j i (-1) = if rd a i = rd b j then sennitref03_Match.l0 k a b T w (out ++ [j]) (j + 1) (i + 1) else if r1 < r2 then sennitref03_Match.l1 k a b T w out (j + 1) i (-1) else sennitref03_Match.l0 k a b T w (out ++ [-1]) j (i + 1) := by
  have a1 : wrap64 (i + 1) = i + 1 := w64 (by omega) (by omega)
  have a2 : wrap64 X1 = X1 := w64 (by omega) (by omega)
  have a3 : wrap64 (X1 + j) = X1 + j := w64 (by omega) (by omega)
  have a4 : wrap64 X0 = X0 := w64 (by omega) (by omega)
  have a5 : wrap64 (X0 + j) = X0 + j := w64 (by omega) (by omega)
  have a6 : wrap64 (X0 + j + 1) = X0 + j + 1 := w64 (by omega) (by omega)
  have a7 : wrap64 (j + 1) = j + 1 := w64 (by omega) (by omega)
  have b1 : 0 ≤ X1 + j := by omega
  have b2 : X1 + j < T.length := by omega
  have b3 : 0 ≤ X0 + j + 1 := by omega
  have b4 : X0 + j + 1 < T.length := by omega
  rw [sennitref03_Match.l1, a1, hX1, hX0, a2, a3, a4, a5, a6, a7, e1, e2]
  rw [if_pos hcb, if_pos hi, if_pos hia, if_pos hc, if_pos b1, if_pos b2, if_pos b3, if_pos b4, if_pos ho]
  simp only [if_pos ho]

theorem match_l (ha : a.length ≤ 100) (hb : b.length ≤ 100) {T : List Int} (hT : Tab a b 0 0 T) : ∀ (m : Nat),
    (∀ (i j : Nat) (out : List Int) (k : Nat), i ≤ a.length → j ≤ b.length → out.length = i → 2 * (a.length - i) + (b.length - j) + 1 ≤ m → m ≤ k → sennitref03_Match.l0 k a b T ((b.length : Int) + 1) out (j : Int) (i : Int) = some (out ++ matchFrom (a.drop i) (b.drop j) j)) ∧
    (∀ (i j : Nat) (out : List Int) (k : Nat), i < a.length → j ≤ b.length → out.length = i → 2 * (a.length - i) + (b.length - j) ≤ m → m ≤ k → sennitref03_Match.l1 k a b T ((b.length : Int) + 1) out (j : Int) (i : Int) (-1) = some (out ++ matchFrom (a.drop i) (b.drop j) j))
  | 0 => ⟨fun i j out k _ _ _ h _ => by omega, fun i j out k _ _ _ h _ => by omega⟩
  | m + 1 => by
    obtain ⟨ih0, ih1⟩ := match_l ha hb hT m
    refine ⟨fun i j out k hi hj ho hm hk => ?_, fun i j out k hi hj ho hm hk => ?_⟩
    · obtain ⟨k, rfl⟩ : ∃ k', k = k' + 1 := ⟨k - 1, by omega⟩
      rw [sennitref03_Match.l0]
      by_cases h : i < a.length
      · rw [if_pos (by omega)]
        exact ih1 i j out k h hj ho (by omega) (by omega)
      · rw [if_neg (by omega), List.drop_of_length_le (by omega), matchFrom_nil, List.append_nil]
    · obtain ⟨k, rfl⟩ : ∃ k', k = k' + 1 := ⟨k - 1, by omega⟩
      have xa : a[i]? = some a[i] := List.getElem?_eq_getElem hi
      have z0 : ((out ++ [(-1 : Int)]) ++ matchFrom (a.drop (i + 1)) (b.drop j) j) = out ++ (-1 :: matchFrom (a.drop (i + 1)) (b.drop j) j) := by simp
      have w1 : wrap64 ((i : Int) + 1) = (i : Int) + 1 := w64 (by omega) (by omega)
      have old : sennitref03_Match.l0 k a b T ((b.length : Int) + 1) (out ++ [(-1 : Int)]) (j : Int) ((i : Int) + 1) = some (out ++ (-1 :: matchFrom (a.drop (i + 1)) (b.drop j) j)) := by
        have := ih0 (i + 1) j (out ++ [-1]) k (by omega) hj (by simp [ho]) (by omega) (by omega)
        rw [show ((i + 1 : Nat) : Int) = (i : Int) + 1 from by omega] at this
        rw [this, z0]
      by_cases h : j < b.length
      · have xb : b[j]? = some b[j] := List.getElem?_eq_getElem h
        have p1 := place64 ha hb (i := i + 1) (j := b.length) (by omega) (by omega)
        have p4 := place64 ha hb (i := i) (j := j) (by omega) (by omega)
        have r1 := hT.at_ (i' := i + 1) (j' := j) (by omega) (by omega) (by omega)
        have r2 := hT.at_ (i' := i) (j' := j + 1) (by omega) (by omega) (by omega)
        have L : (T.length : Int) = ((a.length : Int) + 1) * ((b.length : Int) + 1) := by rw [hT.1]; simp
        have x1 : ((i + 1 : Nat) : Int) = (i : Int) + 1 := by omega
        have x2 : ((j + 1 : Nat) : Int) = (j : Int) + 1 := by omega
        rw [x1] at p1 r1
        rw [x2, ← Int.add_assoc] at r2
        have hX : ((i : Int) + 1) * ((b.length : Int) + 1) = (i : Int) * ((b.length : Int) + 1) + ((b.length : Int) + 1) := by rw [Int.add_mul, Int.one_mul]
        obtain ⟨X0, hX0⟩ : ∃ X0, (i : Int) * ((b.length : Int) + 1) = X0 := ⟨_, rfl⟩
        obtain ⟨X1, hX1⟩ : ∃ X1, ((i : Int) + 1) * ((b.length : Int) + 1) = X1 := ⟨_, rfl⟩
        obtain ⟨LL, hLL⟩ : ∃ LL, ((a.length : Int) + 1) * ((b.length : Int) + 1) = LL := ⟨_, rfl⟩
        rw [hX0] at p4 r2 hX
        rw [hX1] at p1 r1 hX
        rw [hLL] at p1 p4 L
        have st := match_step a b T ((b.length : Int) + 1) i j X0 X1 out k hX0 hX1 (by omega) hX (by omega) (by omega) (by omega) (by omega) (by omega) (by omega) (by omega) (by omega) (by omega) (by omega) _ _ r1 r2
        rw [st, rd_of xa, rd_of xb]
        clear st p1 p4 r1 r2 L hX hX0 hX1 hLL
        rw [drop_cons' xa, drop_cons' xb, matchFrom_cons, ← drop_cons' xa, ← drop_cons' xb]
        by_cases eq : a[i] = b[j]
        · rw [if_pos eq, if_pos eq]
          have := ih0 (i + 1) (j + 1) (out ++ [(j : Int)]) k (by omega) (by omega) (by simp [ho]) (by omega) (by omega)
          rw [x1, x2] at this
          rw [this]
          simp
        · rw [if_neg eq, if_neg eq]
          by_cases le : lcsL (a.drop i) (b.drop (j + 1)) ≤ lcsL (a.drop (i + 1)) (b.drop j)
          · rw [if_neg (by omega), if_pos le]
            exact old
          · rw [if_pos (by omega), if_neg le]
            have := ih1 i (j + 1) out k hi (by omega) ho (by omega) (by omega)
            rw [x2] at this
            exact this
      · have b0 : ¬ (j : Int) < b.length := by omega
        have b8 : out.length < 17592186044416 := by omega
        rw [sennitref03_Match.l1, if_neg b0, if_pos b8, w1]
        have hbn : b.drop j = [] := List.drop_of_length_le (by omega)
        rw [old, hbn, drop_cons' xa, matchFrom_none]

theorem match_gives (ha : a.length ≤ 100) (hb : b.length ≤ 100) : Gives (fun k => sennitref03_Match.f k a b) (matchOf a b) := by
  obtain ⟨T, h1, K, h2⟩ := rest_gives ha hb
  refine ⟨K + (2 * a.length + b.length + 1), fun k hk => ?_⟩
  show sennitref03_Match.f k a b = _
  rw [sennitref03_Match.f, show sennitref03_rest.f k a b = some T from h2 k (by omega), Option.bind_some, w64 (by omega) (by omega)]
  have := (match_l ha hb h1 (2 * a.length + b.length + 1)).1 0 0 [] k (by omega) (by omega) rfl (by omega) (by omega)
  simpa [matchOf] using this
theorem both_gives (ha : a.length ≤ 1000) (hb : b.length ≤ 1000) : sennitlaw03_both.f a b = some (a ++ b) := by
  simp only [sennitlaw03_both.f, Option.bind_some]
  rw [if_pos (by simp; omega), if_pos (by simp; omega)]
  simp
end
end Go.Proofs.Ytkakcefekabmhaa.X
