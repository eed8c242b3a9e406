/-
  Parts of one proof, one behind the other: XMKind, XMCar.
-/
import Derived.Test.YtbbhdbeaikclcaaBMergeCarries8
-- part XMKind
namespace Go.Proofs.Ytbbhdbeaikclcaa.X
open Go.RowKit Go.Proofs.YtbbhdbeaikclcaaW.PrintWords Go.Proofs.YtbbhdbeaikclcaaW.PrintLast Go.Proofs.YtbbhdbeaikclcaaW.PrintMore
set_option linter.unusedVariables false
set_option linter.unusedSimpArgs false
theorem any_mem {y : List ByteArray} {out : List (List ByteArray)} : out.any (fun z => decide (y = z)) = true ↔ y ∈ out := by
  rw [List.any_eq_true]
  constructor
  · rintro ⟨z, hz, h⟩
    rw [of_decide_eq_true h]; exact hz
  · exact fun h => ⟨y, h, decide_eq_true rfl⟩
theorem list_snoc {α : Type} {l : List α} {n : Nat} (h : l.length = n + 1) : ∃ (k : List α) (y : α), l = k ++ [y] ∧ k.length = n :=
  ⟨l.take n, l[n], by
    have := List.take_append_getElem (l := l) (i := n) (by omega)
    rw [this, List.take_of_length_le (by omega)], by rw [List.length_take]; omega⟩
theorem differF_mem (x : List ByteArray) : ∀ (n : Nat) (l : List (List ByteArray)), l.length = n → ∀ z, z ∈ differF x l ↔ z ∈ l ∧ z ≠ x
  | 0, l, h, z => by rw [List.eq_nil_of_length_eq_zero h]; exact ⟨fun h => (by cases h), fun h => (by have h2 := h.1; cases h2)⟩
  | n + 1, l, h, z => by
    obtain ⟨k, y, rfl, hk⟩ := list_snoc h
    have ih := differF_mem x n k hk
    rw [differF_snoc, differStep]
    split
    · rename_i hc
      have hy : y ≠ x := of_decide_eq_false hc.1
      rw [List.mem_append, List.mem_append, ih z, List.mem_singleton]
      constructor
      · rintro (h | rfl)
        · exact ⟨.inl h.1, h.2⟩
        · exact ⟨.inr rfl, hy⟩
      · rintro ⟨h | h, h2⟩
        · exact .inl ⟨h, h2⟩
        · exact .inr h
    · rename_i hc
      rw [ih z, List.mem_append, List.mem_singleton]
      constructor
      · rintro ⟨h, h2⟩; exact ⟨.inl h, h2⟩
      · rintro ⟨h | rfl, h2⟩
        · exact ⟨h, h2⟩
        · have h3 : (differF x k).any (fun w => decide (z = w)) = true := by
            cases h4 : (differF x k).any (fun w => decide (z = w)) with
            | true => rfl
            | false => exact absurd ⟨decide_eq_false h2, h4⟩ hc
          exact (ih z).1 (any_mem.1 h3)
theorem rdL {xs : List (List ByteArray)} {i : Nat} (h : i < xs.length) : rd_L1 xs (i : Int) = xs[i] := getN h
section
variable {x : List ByteArray} {l : List (List ByteArray)}
theorem ref_Differing_l1 (hl : l.length ≤ 1000000) (hm : ∀ y ∈ l, y.length ≤ 1000000) {i : Nat} (hi : i < l.length) {out : List (List ByteArray)} (ho : out.length ≤ 1000000) {R : List (List ByteArray)} : ∀ (r j : Nat) (known : Bool), j + r = i → Gives (fun k => sennitref06_Differing.l0 k x l (if (known || ((l.take i).drop j).any (fun z => decide (l[i] = z))) = true then out else out ++ [l[i]]) ((i + 1 : Nat) : Int)) R → Gives (fun k => sennitref06_Differing.l1 k x l out (i : Int) known (j : Int)) R
  | 0, j, known, hj, hg => by
    have e : (l.take i).drop j = [] := List.drop_of_length_le (by rw [List.length_take]; omega)
    rw [e, List.any_nil, Bool.or_false] at hg
    refine hg.step fun k => ?_
    show sennitref06_Differing.l1 (k + 1) x l out (i : Int) known (j : Int) = _
    rw [sennitref06_Differing.l1, if_neg (by omega)]
    cases known with
    | true => rw [if_pos rfl, gw1 (by omega), if_pos rfl]
    | false => rw [if_neg (by decide), if_pos (by omega), if_pos (by omega), if_pos (by omega), rdL hi, gw1 (by omega), if_neg (by decide)]
  | r + 1, j, known, hj, hg => by
    have hji : j < (l.take i).length := by rw [List.length_take]; omega
    have e : (l.take i).drop j = l[j] :: (l.take i).drop (j + 1) := by
      rw [dropCons hji, List.getElem_take]
    rw [e, List.any_cons, ← Bool.or_assoc] at hg
    cases known with
    | true =>
      refine (ref_Differing_l1 hl hm hi ho r (j + 1) true (by omega) (hg.same fun k => ?_)).step fun k => ?_
      · simp
      · show sennitref06_Differing.l1 (k + 1) x l out (i : Int) true (j : Int) = _
        rw [sennitref06_Differing.l1, if_pos (by omega), if_pos rfl, gw1 (by omega)]
    | false =>
      have hs := ref_same01 l[i] l[j] (by have := hm _ (List.getElem_mem hi); omega)
      rw [Bool.false_or] at hg
      refine Gives.call hs (ref_Differing_l1 hl hm hi ho r (j + 1) (decide (l[i] = l[j])) (by omega) hg) fun k hk => ?_
      show sennitref06_Differing.l1 (k + 1) x l out (i : Int) false (j : Int) = _
      rw [sennitref06_Differing.l1, if_pos (by omega), if_neg (by decide), if_pos (by omega), if_pos (by omega), if_pos (by omega), if_pos (by omega), rdL hi, rdL (by omega), hk, Option.bind_some, gw1 (by omega)]
theorem ref_Differing_l0 (hl : l.length ≤ 1000000) (hm : ∀ y ∈ l, y.length ≤ 1000000) : ∀ (r i : Nat), i + r = l.length → Gives (fun k => sennitref06_Differing.l0 k x l (differF x (l.take i)) (i : Int)) (differF x l)
  | 0, i, hi => Gives.of fun k => by
    show sennitref06_Differing.l0 (k + 1) x l _ (i : Int) = _
    rw [sennitref06_Differing.l0, if_neg (by omega), List.take_of_length_le (by omega)]
  | r + 1, i, hi => by
    have hil : i < l.length := by omega
    have hs := ref_same01 l[i] x (by have := hm _ (List.getElem_mem hil); omega)
    have ih := ref_Differing_l0 hl hm r (i + 1) (by omega)
    have ho := differF_len x _ (l.take i) rfl
    have htk : differF x (l.take (i + 1)) = if (decide (l[i] = x) || ((l.take i).drop 0).any (fun z => decide (l[i] = z))) = true then differF x (l.take i) else differF x (l.take i) ++ [l[i]] := by
      rw [← List.take_append_getElem hil, differF_snoc, differStep, List.drop_zero]
      have hmem := differF_mem x _ (l.take i) rfl l[i]
      by_cases h1 : l[i] = x
      · rw [if_neg (fun h => of_decide_eq_false h.1 h1), decide_eq_true h1, Bool.true_or, if_pos rfl]
      · rw [decide_eq_false h1, Bool.false_or]
        by_cases h2 : (l.take i).any (fun z => decide (l[i] = z)) = true
        · rw [if_pos h2, if_neg (fun h => by have := any_mem.2 (hmem.2 ⟨any_mem.1 h2, h1⟩); rw [h.2] at this; cases this)]
        · rw [if_neg h2, if_pos ⟨rfl, by
            cases hc : (differF x (l.take i)).any (fun z => decide (l[i] = z)) with
            | false => rfl
            | true => exact absurd (any_mem.2 (hmem.1 (any_mem.1 hc)).1) h2⟩]
    rw [htk] at ih
    refine Gives.call hs (ref_Differing_l1 hl hm hil (out := differF x (l.take i)) (by rw [List.length_take] at ho; omega) i 0 (decide (l[i] = x)) (by omega) ih) fun k hk => ?_
    show sennitref06_Differing.l0 (k + 1) x l _ (i : Int) = _
    rw [sennitref06_Differing.l0, if_pos (by omega), if_pos (by omega), rdL hil, hk, Option.bind_some]; rfl
theorem ref_Differing (hl : l.length ≤ 1000000) (hm : ∀ y ∈ l, y.length ≤ 1000000) : Gives (fun k => sennitref06_Differing.f k x l) (differF x l) := by
  have := ref_Differing_l0 (x := x) hl hm l.length 0 (by omega)
  exact this
theorem ref_Kind (hl : l.length ≤ 1000000) (hm : ∀ y ∈ l, y.length ≤ 1000000) : Gives (fun k => sennitref06_Kind.f k x l) (mn ((differF x l).length : Int) 2) :=
  Gives.last0 (ref_Differing (x := x) hl hm) fun k hk => by
    show sennitref06_Kind.f k x l = _
    rw [sennitref06_Kind.f, hk, Option.bind_some]
end
end Go.Proofs.Ytbbhdbeaikclcaa.X
-- part XMCar
namespace Go.Proofs.Ytbbhdbeaikclcaa.X
open Go.RowKit Go.Proofs.YtbbhdbeaikclcaaW.PrintWords Go.Proofs.YtbbhdbeaikclcaaW.PrintLast Go.Proofs.YtbbhdbeaikclcaaW.PrintMore
set_option linter.unusedVariables false
set_option linter.unusedSimpArgs false
/-- How many of the base's texts a conflict has. -/
def cbN (p : Piece) : Nat := if p.f0 = true then p.f2.length else 0
theorem cb_put (out : List Piece) (p : Piece) : ((putF out p).map cbN).sum = (out.map cbN).sum + cbN p := by
  unfold putF
  split
  · rename_i h
    rw [List.map_append, List.sum_append, List.map_singleton, List.sum_singleton, cbN, cbN, if_pos rfl, if_pos h]
  · rename_i h
    have hp : cbN p = 0 := by rw [cbN, if_neg h]
    rw [hp]
    split
    · rfl
    · split
      · rename_i h2
        rw [textLast, Bool.and_eq_true] at h2
        have hl := of_decide_eq_true h2.1
        have hf : (out.getD (out.length - 1) z33).f0 = false := by simpa using h2.2
        rw [set_last hl]
        conv => rhs; rw [take_last hl z33]
        rw [List.map_append, List.map_append, List.sum_append, List.sum_append, List.map_singleton, List.map_singleton, List.sum_singleton, List.sum_singleton, cbN, cbN, hf]
        simp [hf]
      · rw [List.map_append, List.sum_append, List.map_singleton, List.sum_singleton, cbN]; simp
theorem cb_normal : ∀ (n : Nat) (l : List Piece), l.length = n → ((normalF l).map cbN).sum = (l.map cbN).sum
  | 0, l, h => by rw [List.eq_nil_of_length_eq_zero h]; rfl
  | n + 1, l, h => by
    obtain ⟨k, y, rfl, hk⟩ := list_snoc h
    rw [normalF_snoc, cb_put, cb_normal n k hk, List.map_append, List.sum_append]; simp
/-- A conflict among pieces in normal form is one of them. -/
theorem conf_put {out : List Piece} {p q : Piece} (hq : q ∈ putF out p) (hf : q.f0 = true) : q ∈ out ∨ (p.f0 = true ∧ q = ⟨true, [], p.f2, p.f3⟩) := by
  unfold putF at hq
  split at hq
  · rename_i h
    rcases List.mem_append.1 hq with hq | hq
    · exact .inl hq
    · exact .inr ⟨h, List.mem_singleton.1 hq⟩
  · split at hq
    · exact .inl hq
    · split at hq
      · rename_i h2
        rw [textLast, Bool.and_eq_true] at h2
        have hl := of_decide_eq_true h2.1
        rw [set_last hl] at hq
        rcases List.mem_append.1 hq with hq | hq
        · exact .inl (List.mem_of_mem_take hq)
        · have e := List.mem_singleton.1 hq
          rw [e] at hf
          have h3 : (out.getD (out.length - 1) z33).f0 = false := by simpa using h2.2
          have h4 : (out.getD (out.length - 1) z33).f0 = true := hf
          rw [h3] at h4
          cases h4
      · rcases List.mem_append.1 hq with hq | hq
        · exact .inl hq
        · have e := List.mem_singleton.1 hq
          rw [e] at hf
          cases hf
theorem conf_normal : ∀ (n : Nat) (l : List Piece), l.length = n → ∀ q ∈ normalF l, q.f0 = true → ∃ p ∈ l, p.f0 = true ∧ q.f2 = p.f2 ∧ q.f3 = p.f3
  | 0, l, h, q, hq, _ => by rw [List.eq_nil_of_length_eq_zero h] at hq; cases hq
  | n + 1, l, h, q, hq, hf => by
    obtain ⟨k, y, rfl, hk⟩ := list_snoc h
    rw [normalF_snoc] at hq
    rcases conf_put hq hf with hq | ⟨h1, rfl⟩
    · obtain ⟨p, hp, h2⟩ := conf_normal n k hk q hq hf
      exact ⟨p, List.mem_append_left _ hp, h2⟩
    · exact ⟨y, List.mem_append_right _ (List.mem_singleton.2 rfl), h1, rfl, rfl⟩
section
variable {base : List ByteArray} {sides : List (List ByteArray)}
theorem conf_piece {c : Chunk} (h : (mergePiece base sides 0 false c).f0 = true) : (mergePiece base sides 0 false c).f2 = cutS base c.f1 ∧ (mergePiece base sides 0 false c).f3 = partsF c.f2 sides ∧ 2 ≤ (differF (cutS base c.f1) (partsF c.f2 sides)).length := by
  unfold mergePiece at h ⊢
  split
  · rename_i hc; rw [if_pos hc] at h; cases h
  · rename_i hc
    rw [if_neg hc] at h
    unfold pieceF at h ⊢
    split
    · rename_i h0; rw [if_pos h0] at h; cases h
    · rename_i h0
      rw [if_neg h0] at h
      split
      · rename_i h1; rw [if_pos h1] at h; cases h
      · rename_i h1
        rw [if_neg (by omega), if_neg (by decide)]
        exact ⟨rfl, rfl, by omega⟩
theorem cb_piece (c : Chunk) : cbN (mergePiece base sides 0 false c) ≤ (cutS base c.f1).length := by
  unfold cbN
  split
  · rename_i h; rw [(conf_piece h).1]; exact Nat.le_refl _
  · exact Nat.zero_le _
theorem tiles_base : ∀ (cs : List Chunk) (p : Bool) (b : Nat) (s : List Nat), Tiles base sides p b s cs → ((cs.map (fun c => (cutS base c.f1).length)).sum + b = base.length)
  | [], p, b, s, h => by rw [h.1]; simp
  | c :: cs, p, b, s, h => by
    obtain ⟨b', s', h1, h2, h3, h4, h5, h6, h7, h8, h9, h10⟩ := h
    have ih := tiles_base cs c.f0 b' s' h10
    have hcut : (cutS base c.f1).length = b' - b := by
      rw [h1]
      exact cutL_len h6
    rw [List.map_cons, List.sum_cons, hcut]
    omega
theorem sum_le {α : Type} {f g : α → Nat} : ∀ (l : List α), (∀ x, f x ≤ g x) → (l.map f).sum ≤ (l.map g).sum
  | [], _ => Nat.le_refl _
  | x :: l, h => by
    have := sum_le l h
    have := h x
    rw [List.map_cons, List.map_cons, List.sum_cons, List.sum_cons]; omega
theorem cb_all (base : List ByteArray) (sides : List (List ByteArray)) : ((normalF (piecesL base sides 0 false)).map cbN).sum ≤ base.length := by
  have h1 : ((chunksL base sides).map (fun c => (cutS base c.f1).length)).sum + 0 = base.length := tiles_base _ _ _ _ (align_tiles base sides)
  have h2 := sum_le (f := fun c => cbN (mergePiece base sides 0 false c)) (chunksL base sides) cb_piece
  have e : (piecesL base sides 0 false).map cbN = (chunksL base sides).map (fun c => cbN (mergePiece base sides 0 false c)) := by rw [piecesL, List.map_map]; rfl
  rw [cb_normal _ _ rfl, e]
  omega
theorem conf_all (h : FewT base sides) {q : Piece} (hq : q ∈ normalF (piecesL base sides 0 false)) (hf : q.f0 = true) : q.f3.length = sides.length ∧ 2 ≤ (differF q.f2 q.f3).length ∧ (∀ y ∈ q.f3, y.length ≤ 16) := by
  obtain ⟨p, hp, h1, h2, h3⟩ := conf_normal _ _ rfl q hq hf
  obtain ⟨c, hc, rfl⟩ := List.mem_map.1 hp
  obtain ⟨e1, e2, e3⟩ := conf_piece h1
  rw [h2, h3, e1, e2]
  refine ⟨tiles_parts (chunk_ok hc), e3, fun y hy => ?_⟩
  obtain ⟨i, hi, rfl⟩ := partsF_at (chunk_ok hc).1 y hy
  have := (h.2.2 _ (List.getElem_mem hi)).1
  refine Nat.le_trans ?_ this
  rw [cutS, cutL, List.length_drop, List.length_take]
  omega
theorem take_sum {N : List Piece} {i : Nat} (hi : i < N.length) : ((N.take (i + 1)).map cbN).sum = ((N.take i).map cbN).sum + cbN N[i] := by
  rw [← List.take_append_getElem hi, List.map_append, List.sum_append]; simp
theorem take_le (N : List Piece) (i : Nat) : ((N.take i).map cbN).sum ≤ (N.map cbN).sum := by
  conv => rhs; rw [← List.take_append_drop i N, List.map_append, List.sum_append]
  omega
theorem rdP {xs : List Piece} {i : Nat} (h : i < xs.length) : rd_T33 xs (i : Int) = xs[i] := getN h
theorem carries_l0 (h : FewT base sides) {N : List Piece} (hN : N.length ≤ 112) (hc : ∀ q ∈ N, q.f0 = true → q.f3.length = sides.length ∧ 2 ≤ (differF q.f2 q.f3).length ∧ (∀ y ∈ q.f3, y.length ≤ 16)) (hs : (N.map cbN).sum ≤ base.length) : ∀ (r i : Nat), i + r = N.length → Gives (fun k => sennitlaw08_MergeCarries.l0 k base sides true N (((N.take i).map cbN).sum : Nat) (i : Int)) true
  | 0, i, hi => Gives.of fun k => by
    show sennitlaw08_MergeCarries.l0 (k + 1) base sides true N _ (i : Int) = _
    have := take_le N i
    rw [sennitlaw08_MergeCarries.l0, if_neg (by omega), if_pos rfl, decide_eq_true (by omega)]
  | r + 1, i, hi => by
    have hil : i < N.length := by omega
    have ih := carries_l0 h hN hc hs r (i + 1) (by omega)
    have h1 := take_le N (i + 1)
    have h16 := h.1.1
    rw [take_sum hil] at ih h1
    by_cases hf : N[i].f0 = true
    · obtain ⟨a1, a2, a3⟩ := hc _ (List.getElem_mem hil) hf
      have h6 := h.2.1
      have hk := ref_Kind (x := N[i].f2) (l := N[i].f3) (by omega) (fun y hy => by have := a3 y hy; omega)
      have hcb : cbN N[i] = N[i].f2.length := by rw [cbN, if_pos hf]
      rw [hcb] at ih h1
      have hmn : ¬ mn ((differF N[i].f2 N[i].f3).length : Int) 2 < 2 := by unfold mn; split <;> omega
      refine Gives.call hk ih fun k hk => ?_
      show sennitlaw08_MergeCarries.l0 (k + 1) base sides true N _ (i : Int) = _
      rw [sennitlaw08_MergeCarries.l0, if_pos (by omega), if_pos (by omega), rdP hil, if_pos hf, if_pos (by omega), hk, Option.bind_some, if_neg hmn, gw1 (by omega), gw (by omega) (by omega)]
      rfl
    · have hcb : cbN N[i] = 0 := by rw [cbN, if_neg hf]
      rw [hcb] at ih
      refine ih.step fun k => ?_
      show sennitlaw08_MergeCarries.l0 (k + 1) base sides true N _ (i : Int) = _
      rw [sennitlaw08_MergeCarries.l0, if_pos (by omega), if_pos (by omega), rdP hil, if_neg hf, gw1 (by omega)]
      rfl
end
theorem carries08 (base : List ByteArray) (sides : List (List ByteArray)) : Gives (fun k => sennitlaw08_MergeCarries.f k base sides) true := by
  obtain ⟨b, hb, hf⟩ := ref_May08 base sides
  cases b with
  | false =>
    refine Gives.last0 hb fun k hk => ?_
    show sennitlaw08_MergeCarries.f k base sides = _
    rw [sennitlaw08_MergeCarries.f, sennitlaw08_awake.true_, Option.bind_some, hk, Option.bind_some, if_neg (by decide)]
  | true =>
    obtain ⟨h, h0⟩ := hf rfl
    have e1 := h.mergeN h0 (fav := 0) (un := false) (by rintro (h | h | h); omega; omega; exact absurd h.2 (by decide))
    have hl := carries_l0 h (h.normal 0 false) (fun q hq => conf_all h hq) (cb_all base sides) (normalF (piecesL base sides 0 false)).length 0 (by omega)
    refine Gives.call0 hb hl fun k hk => ?_
    show sennitlaw08_MergeCarries.f k base sides = _
    rw [sennitlaw08_MergeCarries.f, sennitlaw08_awake.true_, Option.bind_some, hk, Option.bind_some, if_pos rfl, e1, Option.bind_some]
    rfl
theorem law_MergeCarries (W : World) (A0 : Option Addr) (c0 : Nat) (l0 : List ByteArray) (hr0 : Kd.C Kd.string W A0 l0.length l0) (hc0 : l0.length ≤ c0) (g0 : l0.length * 16 ≤ 140737488351232 ∧ ∀ y ∈ l0, y.size ≤ 140737488351232) (A1 : Option Addr) (c1 : Nat) (l1 : List (List ByteArray)) (hr1 : Kd.C (Kd.slice 9 Kd.string) W A1 l1.length l1) (hc1 : l1.length ≤ c1) (g1 : l1.length * 24 ≤ 140737488351232 ∧ ∀ y ∈ l1, y.length * 16 ≤ 140737488351232 ∧ ∀ yy ∈ y, yy.size ≤ 140737488351232) :
    Calls Try.prog 3 #[.slice A0 l0.length c0, .slice A1 l1.length c1] W fun e w' => e = .returned (.bool true) ∧ Below W.heap.size W w' := by
  obtain ⟨k, hk⟩ := carries08 l0 l1
  exact sennitlaw08_MergeCarries.calls k A0 c0 l0 A1 c1 l1 true W hr0 hc0 hr1 hc1 (hk k (Nat.le_refl _))
end Go.Proofs.Ytbbhdbeaikclcaa.X
