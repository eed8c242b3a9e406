/-
  Parts of one proof, one behind the other: XTabMath, XTabRows, XTabTells, XGapSame, XTabSame.
-/
import Derived.Test.YtnlekganlliikaaBTableSame6
-- part XTabMath
namespace Go.Proofs.Ytnlekganlliikaa.X
open Go.RowKit Go.Proofs.YtnlekganlliikaaW.PrintWords Go.Proofs.YtnlekganlliikaaW.PrintLast Go.Proofs.YtnlekganlliikaaW.PrintMore
set_option linter.unusedVariables false
set_option linter.unusedSimpArgs false
/-- Where the next pairing is. -/
def nextM : List Int → Nat → Nat
  | [], n => n
  | m :: t, n => if 0 ≤ m then m.toNat else nextM t n
/-- Where the lines ahead of a line begin, if any may be there. -/
def fromM (ms : List Int) : Nat → Option Nat
  | 0 => some 0
  | q + 1 => if 0 ≤ ms.getD q (-1) then some ((ms.getD q (-1)).toNat + 1) else none
/-- The parent's lines ahead of a line of the result. -/
def segL (p : List ByteArray) (ms : List Int) (q : Nat) : List ByteArray :=
  match fromM ms q with
  | none => []
  | some a => (p.take (nextM (ms.drop q) p.length)).drop a
def updSeg (N col : Nat) (p : List ByteArray) (ms : List Int) (lost : Nat → Option (List (List ByteArray))) (q : Nat) : Option (List (List ByteArray)) :=
  if segL p ms q = [] then lost q else some (((lost q).getD (List.replicate N [])).set col (segL p ms q))
theorem Fits.next {list : List ByteArray} : ∀ {ms : List Int} {ss : List ByteArray} {lo : Nat}, Fits list ms ss lo → lo ≤ nextM ms list.length ∧ nextM ms list.length ≤ list.length
  | [], [], lo, h => ⟨h, Nat.le_refl _⟩
  | [], _ :: _, lo, h => h.elim
  | m :: ms, s :: ss, lo, h => by
    rcases h with ⟨rfl, h⟩ | ⟨k, rfl, h1, h2, h3⟩
    · rw [nextM, if_neg (by decide)]; exact h.next
    · have := (List.getElem?_eq_some_iff.1 h2).1
      rw [nextM, if_pos (by omega), Int.toNat_natCast]; omega
  | _ :: _, [], lo, h => h.elim
theorem Fits.at_ {list : List ByteArray} : ∀ {ms : List Int} {ss : List ByteArray} {lo : Nat}, Fits list ms ss lo → ∀ q, q < ms.length → (ms.getD q (-1) = -1) ∨ ∃ k : Nat, ms.getD q (-1) = (k : Int) ∧ list[k]? = ss[q]? ∧ k < list.length ∧ k + 1 ≤ nextM (ms.drop (q + 1)) list.length
  | [], ss, lo, h, q, hq => absurd hq (by simp)
  | m :: ms, s :: ss, lo, h, 0, hq => by
    rcases h with ⟨rfl, h⟩ | ⟨k, rfl, h1, h2, h3⟩
    · exact .inl rfl
    · exact .inr ⟨k, rfl, by rw [h2]; rfl, (List.getElem?_eq_some_iff.1 h2).1, h3.next.1⟩
  | m :: ms, s :: ss, lo, h, q + 1, hq => by
    have hq' : q < ms.length := by simpa using hq
    rcases h with ⟨rfl, h⟩ | ⟨k, rfl, h1, h2, h3⟩
    · exact h.at_ q hq'
    · exact h3.at_ q hq'
  | _ :: _, [], lo, h, q, hq => h.elim
theorem Fits.drop_next {list : List ByteArray} : ∀ {ms : List Int} {ss : List ByteArray} {lo : Nat}, Fits list ms ss lo → ∀ q, nextM (ms.drop q) list.length ≤ list.length
  | ms, ss, lo, h, 0 => h.next.2
  | [], ss, lo, h, q + 1 => Nat.le_refl _
  | m :: ms, s :: ss, lo, h, q + 1 => by
    rcases h with ⟨rfl, h⟩ | ⟨k, rfl, h1, h2, h3⟩
    · exact h.drop_next q
    · exact h3.drop_next q
  | _ :: _, [], lo, h, q + 1 => h.elim
theorem nextM_skip {ms : List Int} {L : Nat} (last : Nat) : ∀ (n : Nat), last + n ≤ ms.length → (∀ j, last ≤ j → j < last + n → ms.getD j (-1) < 0) → nextM (ms.drop last) L = nextM (ms.drop (last + n)) L
  | 0, _, _ => rfl
  | n + 1, hl, hn => by
    rw [nextM_skip last n (by omega) (fun j h1 h2 => hn j h1 (by omega)), dropCons (i := last + n) (by omega), nextM]
    have := hn (last + n) (by omega) (by omega)
    rw [show ms.getD (last + n) (-1) = ms[last + n] by simp [List.getD_eq_getElem?_getD, List.getElem?_eq_getElem (show last + n < ms.length by omega)]] at this
    rw [if_neg (by omega)]; rfl
theorem fromM_none {ms : List Int} {last i q : Nat} (h : ∀ j, last ≤ j → j < i → ms.getD j (-1) < 0) (h1 : last < q) (h2 : q ≤ i ∨ ms.length ≤ i) : fromM ms q = none := by
  obtain ⟨q, rfl⟩ : ∃ q', q = q' + 1 := ⟨q - 1, by omega⟩
  rw [fromM]
  have : ms.getD q (-1) < 0 := by
    by_cases hq : q < i
    · exact h q (by omega) hq
    · rw [List.getD_eq_getElem?_getD, List.getElem?_eq_none (by omega)]; decide
  rw [if_neg (by omega)]
theorem segL_none {p : List ByteArray} {ms : List Int} {q : Nat} (h : fromM ms q = none) : segL p ms q = [] := by rw [segL, h]
theorem loseAt_eq {N col : Nat} {p : List ByteArray} {ms : List Int} {lost : Nat → Option (List (List ByteArray))} {at_ last : Nat} (hF : nextM (ms.drop last) p.length ≤ p.length) (ha : fromM ms last = some at_) (q : Nat) :
    loseAt N col p lost (nextM (ms.drop last) p.length) at_ last q = if q = last then updSeg N col p ms lost q else lost q := by
  have hs : segL p ms last = (p.take (nextM (ms.drop last) p.length)).drop at_ := by rw [segL, ha]
  by_cases hq : q = last
  · subst hq
    rw [if_pos rfl, updSeg, hs, loseAt]
    by_cases h : at_ < nextM (ms.drop q) p.length
    · have hne : ¬ (p.take (nextM (ms.drop q) p.length)).drop at_ = [] := by rw [List.drop_eq_nil_iff, List.length_take]; omega
      rw [if_pos h, if_neg hne]
      exact if_pos rfl
    · rw [if_neg h, if_pos (List.drop_eq_nil_iff.2 (by simp; omega))]
  · rw [if_neg hq, loseAt]
    split
    · simp [hq]
    · rfl
theorem pairGo_eq {N col : Nat} {p ss : List ByteArray} {ms : List Int} (hF : Fits p ms ss 0) : ∀ (t : List Int) (i at_ last : Nat) (lost : Nat → Option (List (List ByteArray))), ms.drop i = t → last ≤ i → i ≤ ms.length → fromM ms last = some at_ → (∀ j, last ≤ j → j < i → ms.getD j (-1) < 0) →
    ∀ q, pairGo N col p t i at_ last lost q = if q < last then lost q else updSeg N col p ms lost q
  | [], i, at_, last, lost, hd, hli, hi, ha, hn, q => by
    have hlen : ms.length ≤ i := List.drop_eq_nil_iff.1 hd
    have hnx : nextM (ms.drop last) p.length = p.length := by
      rw [nextM_skip last (i - last) (by omega) (fun j a b => hn j a (by omega)), show last + (i - last) = i by omega, hd]; rfl
    have := loseAt_eq (N := N) (col := col) (lost := lost) (by rw [hnx]; exact Nat.le_refl _) ha q
    rw [hnx] at this
    rw [pairGo, this]
    by_cases h1 : q < last
    · rw [if_neg (by omega), if_pos h1]
    · rw [if_neg h1]
      by_cases h2 : q = last
      · rw [if_pos h2]
      · rw [if_neg h2, updSeg, if_pos (segL_none (fromM_none hn (by omega) (.inr hlen)))]
  | m :: t, i, at_, last, lost, hd, hli, hi, ha, hn, q => by
    have hil : i < ms.length := by
      apply Classical.byContradiction
      intro h
      rw [List.drop_of_length_le (by omega)] at hd
      cases hd
    rw [dropCons hil] at hd
    have hm : ms[i] = m := (List.cons.inj hd).1
    have ht : ms.drop (i + 1) = t := (List.cons.inj hd).2
    have hg : ms.getD i (-1) = m := by rw [← hm]; simp [List.getD_eq_getElem?_getD, List.getElem?_eq_getElem hil]
    rw [pairGo]
    by_cases h0 : 0 ≤ m
    · rw [if_pos h0, pairGo_eq hF t (i + 1) (m.toNat + 1) (i + 1) _ ht (Nat.le_refl _) hil (by rw [fromM, hg, if_pos h0]) (fun j a b => by omega) q]
      have hnx : nextM (ms.drop last) p.length = m.toNat := by
        rw [nextM_skip last (i - last) (by omega) (fun j a b => hn j a (by omega)), show last + (i - last) = i by omega, dropCons hil, nextM, hm, if_pos h0]
      have := loseAt_eq (N := N) (col := col) (lost := lost) (hF.drop_next last) ha
      rw [hnx] at this
      by_cases h1 : q < last
      · rw [if_pos (by omega), if_pos h1, this q, if_neg (by omega)]
      · rw [if_neg h1]
        by_cases h2 : q = last
        · rw [if_pos (by omega), this q, if_pos h2]
        · by_cases h3 : q < i + 1
          · rw [if_pos h3, this q, if_neg h2, updSeg, if_pos (segL_none (fromM_none hn (by omega) (.inl (by omega))))]
          · rw [if_neg h3, updSeg, updSeg, this q, if_neg h2]
    · rw [if_neg h0, pairGo_eq hF t (i + 1) at_ last lost ht (by omega) hil ha (fun j a b => by
        by_cases hj : j = i
        · subst hj; rw [hg]; omega
        · exact hn j a (by omega)) q]
/-- The parents' lines ahead of a line of the result. -/
def segsL (result : List ByteArray) (ps : List (List ByteArray)) (q : Nat) : List (List ByteArray) := ps.map (fun p => segL p (matchS result p) q)
theorem segsL_length (result : List ByteArray) (ps : List (List ByteArray)) (q : Nat) : (segsL result ps q).length = ps.length := List.length_map ..
theorem empties {ls : List (List ByteArray)} (h : ls.all (·.isEmpty) = true) : ls = List.replicate ls.length [] := by
  induction ls with
  | nil => rfl
  | cons l t ih =>
    simp only [List.all_cons, Bool.and_eq_true, List.isEmpty_iff] at h
    rw [List.length_cons, List.replicate_succ, h.1, ← ih h.2]
theorem lostK_eq (result : List ByteArray) (parents : List (List ByteArray)) (q : Nat) : ∀ k, k ≤ parents.length → lostK result parents k q = if (segsL result (parents.take k) q).all (·.isEmpty) = true then none else some (segsL result (parents.take k) q ++ List.replicate (parents.length - k) [])
  | 0, _ => by
    rw [List.take_zero]; rfl
  | k + 1, hk => by
    have hkl : k < parents.length := by omega
    have ih := lostK_eq result parents q k (by omega)
    have hpg : pairGo parents.length k (parents.getD k []) (matchS result (parents.getD k [])) 0 0 0 (lostK result parents k) q = _ := pairGo_eq (matchS_fits result _) _ 0 0 0 _ rfl (Nat.le_refl _) (Nat.zero_le _) rfl (fun j a b => by omega) q
    rw [lostK_succ _ _ hkl, hpg, if_neg (by omega), updSeg]
    have hp : parents.getD k [] = parents[k] := by simp [hkl]
    have hs : segsL result (parents.take (k + 1)) q = segsL result (parents.take k) q ++ [segL (parents.getD k []) (matchS result (parents.getD k [])) q] := by
      rw [← List.take_append_getElem hkl, segsL, List.map_append, hp]; rfl
    rw [hs]
    obtain ⟨S, hS⟩ : ∃ S, segsL result (parents.take k) q = S := ⟨_, rfl⟩
    obtain ⟨s, hs1⟩ : ∃ s, segL (parents.getD k []) (matchS result (parents.getD k [])) q = s := ⟨_, rfl⟩
    have hSl : S.length = k := by rw [← hS, segsL_length, List.length_take]; omega
    rw [hS] at ih
    rw [hS, hs1]
    have hrep : List.replicate (parents.length - k) ([] : List ByteArray) = [] :: List.replicate (parents.length - (k + 1)) [] := by
      rw [show parents.length - k = (parents.length - (k + 1)) + 1 by omega, List.replicate_succ]
    by_cases e : s = []
    · subst e
      rw [if_pos rfl, ih, List.all_append]
      have : ([[]] : List (List ByteArray)).all (·.isEmpty) = true := rfl
      rw [this, Bool.and_true, hrep]
      simp
    · have hne : (S ++ [s]).all (·.isEmpty) = false := by
        rw [List.all_append]
        have : ([s] : List (List ByteArray)).all (·.isEmpty) = false := by
          cases s with
          | nil => exact absurd rfl e
          | cons a b => rfl
        rw [this, Bool.and_false]
      rw [if_neg e, hne, if_neg (by decide)]
      have hget : (lostK result parents k q).getD (List.replicate parents.length []) = S ++ List.replicate (parents.length - k) [] := by
        rw [ih]
        by_cases ha : S.all (·.isEmpty) = true
        · rw [if_pos ha, Option.getD_none]
          have := empties ha
          rw [hSl] at this
          rw [this, List.replicate_append_replicate]
          congr 1; omega
        · rw [if_neg ha]; rfl
      rw [hget, hrep, List.set_append, if_neg (by omega), hSl, Nat.sub_self, List.set_cons_zero, List.append_assoc]; rfl
theorem lostAll_eq (result : List ByteArray) (parents : List (List ByteArray)) (q : Nat) : lostAll result parents q = if (segsL result parents q).all (·.isEmpty) = true then none else some (segsL result parents q) := by
  have := lostK_eq result parents q parents.length (Nat.le_refl _)
  rw [List.take_length, Nat.sub_self, List.replicate_zero, List.append_nil, lostK, List.take_length] at this
  exact this
theorem rowsOf_empties {ls : List (List ByteArray)} (h : ls.all (·.isEmpty) = true) : rowsOf ls = [] := by
  have h1 := rowsOf_le ls
  have h2 : sumLen ls = 0 := by
    rw [empties h]; simp [sumLen]
  rw [h2] at h1
  exact List.length_eq_zero_iff.1 (by omega)
theorem lostRows_eq (result : List ByteArray) (parents : List (List ByteArray)) (q : Nat) : lostRows (lostAll result parents q) = (rowsOf (segsL result parents q)).map (rowOut parents.length) := by
  rw [lostAll_eq]
  by_cases h : (segsL result parents q).all (·.isEmpty) = true
  · rw [if_pos h, lostRows, rowsOf_empties h]; rfl
  · rw [if_neg h, lostRows, segsL_length]
def marksU (result : List ByteArray) (ps : List (List ByteArray)) (k : Nat) : List UInt8 := ps.map (fun p => if 0 ≤ (matchS result p).getD k 0 then 32 else 43)
theorem markS_bs (m : Int) : markS m = bs [if 0 ≤ m then 32 else 43] := by
  unfold markS
  split <;> rfl
theorem marksK_eq (result : List ByteArray) (parents : List (List ByteArray)) (q : Nat) (hq : q < result.length) : ∀ k, k ≤ parents.length → (marksK result parents k).getD (q + 1) ByteArray.empty = bs (marksU result (parents.take k) q)
  | 0, _ => by
    show ((⟨#[32]⟩ :: List.replicate result.length ByteArray.empty).getD (q + 1) ByteArray.empty) = _
    rw [List.getD_cons_succ]
    simp [List.getD_eq_getElem?_getD, List.getElem?_replicate, hq, marksU]
    rfl
  | k + 1, hk => by
    have hkl : k < parents.length := by omega
    have hp : parents.getD k [] = parents[k] := by simp [hkl]
    have hM := (marksK_ok result parents k (by omega)).1
    have ih := marksK_eq result parents q hq k (by omega)
    rw [marksK_succ _ _ hkl, marksF, List.getD_cons_succ]
    have hml := matchS_length result (parents.getD k [])
    have h1 : q < (marksK result parents k).tail.length := by simp [hM]; exact hq
    have h2 : q < (matchS result (parents.getD k [])).length := by rw [hml]; exact hq
    have h3 : (marksK result parents k).tail[q] = (marksK result parents k).getD (q + 1) ByteArray.empty := by
      rw [List.getElem_tail]; simp [List.getD_eq_getElem?_getD, List.getElem?_eq_getElem (show q + 1 < (marksK result parents k).length by omega)]
    have h4 : (matchS result (parents.getD k [])).getD q 0 = (matchS result (parents.getD k []))[q] := by rw [List.getD_eq_getElem?_getD, List.getElem?_eq_getElem h2]; rfl
    rw [List.getD_eq_getElem?_getD, List.getElem?_zipWith, List.getElem?_eq_getElem h1, List.getElem?_eq_getElem h2]
    show (marksK result parents k).tail[q] ++ markS (matchS result (parents.getD k []))[q] = _
    rw [h3, ih, markS_bs, bs_append, ← List.take_append_getElem hkl, marksU, marksU, List.map_append, ← hp, ← h4]; rfl
theorem marksAll_eq (result : List ByteArray) (parents : List (List ByteArray)) (q : Nat) (hq : q < result.length) : (marksAll result parents).getD (q + 1) ByteArray.empty = bs (marksU result parents q) := by
  have := marksK_eq result parents q hq parents.length (Nat.le_refl _)
  rwa [marksK, List.take_length] at this
/-- The rows ahead of a line of the result. -/
def segRows (result : List ByteArray) (parents : List (List ByteArray)) (q : Nat) : List ApiRow := (rowsOf (segsL result parents q)).map (rowOut parents.length)
theorem tableRows_succ (result : List ByteArray) (parents : List (List ByteArray)) (k : Nat) (hk : k < result.length) : tableRows result parents (k + 1) = tableRows result parents k ++ segRows result parents k ++ [⟨bs (marksU result parents k), result[k]⟩] := by
  rw [tableRows, lostRows_eq, marksAll_eq _ _ _ hk, show result.getD k ByteArray.empty = result[k] by simp [hk]]; rfl
theorem tableAll_eq (result : List ByteArray) (parents : List (List ByteArray)) : tableAll result parents = tableRows result parents result.length ++ segRows result parents result.length := by
  rw [tableAll, lostRows_eq]; rfl
/-- What stands ahead of a line is part of the parent. -/
theorem segL_length_le (p : List ByteArray) (ms : List Int) (q : Nat) : (segL p ms q).length ≤ p.length := by
  unfold segL
  split
  · simp
  · simp; omega
end Go.Proofs.Ytnlekganlliikaa.X
-- part XTabRows
namespace Go.Proofs.Ytnlekganlliikaa.X
open Go.RowKit Go.Proofs.YtnlekganlliikaaW.PrintWords Go.Proofs.YtnlekganlliikaaW.PrintLast Go.Proofs.YtnlekganlliikaaW.PrintMore
set_option linter.unusedVariables false
set_option linter.unusedSimpArgs false
theorem awake20 : sennitlaw20_awake.f = some true := by decide +kernel
section
variable {R : List ApiRow}
end
end Go.Proofs.Ytnlekganlliikaa.X
-- part XTabTells
namespace Go.Proofs.Ytnlekganlliikaa.X
open Go.RowKit Go.Proofs.YtnlekganlliikaaW.PrintWords Go.Proofs.YtnlekganlliikaaW.PrintLast Go.Proofs.YtnlekganlliikaaW.PrintMore
set_option linter.unusedVariables false
set_option linter.unusedSimpArgs false
theorem byte10 (c : UInt8) : ((c.toNat : Int) = 10) ↔ c = 10 := by
  constructor
  · intro h
    have : c.toNat = 10 := by omega
    exact UInt8.toNat_inj.1 this
  · rintro rfl; rfl
theorem index10 (u : List UInt8) : (¬ (10 : UInt8) ∈ u ∧ Lib.indexByte u 10 = -1) ∨ (∃ a b, u = a ++ 10 :: b ∧ ¬ (10 : UInt8) ∈ a ∧ Lib.indexByte u 10 = (a.length : Int)) := by
  induction u with
  | nil => left; simp [Lib.indexByte]
  | cons x xs ih =>
    simp only [Lib.indexByte]
    by_cases e : x = 10
    · right; exact ⟨[], xs, by rw [e]; rfl, by simp, by simp [e]⟩
    · have e' : (x == 10) = false := by simp [e]
      have e2 : ¬ (10 : UInt8) = x := fun h => e h.symm
      rw [e']
      rcases ih with ⟨h1, h2⟩ | ⟨a, b, h0, h1, h2⟩
      · left; simp [h1, h2, e2]
      · right
        refine ⟨x :: a, b, by rw [h0]; rfl, by simp [e2, h1], ?_⟩
        rw [if_neg (by decide), if_neg (by simp; omega), h2]
        simp
theorem closed_eq (s : ByteArray) : lineClosed s = (decide (s.data.toList.count 10 = 1) && decide (s.data.toList.getLast? = some 10)) := by
  have hs := sizeLen s
  rw [lineClosed, ← Bool.decide_and, decide_eq_decide]
  rcases index10 s.data.toList with ⟨h1, h2⟩ | ⟨a, b, h0, h1, h2⟩
  · rw [h2, List.count_eq_zero.2 h1]; omega
  · rw [h2, hs, h0, List.count_append, List.count_eq_zero.2 h1, List.count_cons_self, List.length_append, List.length_cons]
    cases b with
    | nil => simp
    | cons y t =>
      rw [List.getLast?_append, List.getLast?_cons_cons]
      constructor
      · intro ⟨_, h⟩; rw [List.length_cons] at h; omega
      · rintro ⟨h3, h4⟩
        have h5 : (y :: t).getLast? = some 10 := by
          cases hg : (y :: t).getLast? with
          | none => simp at hg
          | some z => rw [hg] at h4; exact h4
        have := List.count_pos_iff.2 (List.mem_of_getLast? h5)
        omega
theorem open_eq (s : ByteArray) : lineOpen s = (decide (0 < s.size) && decide (s.data.toList.count 10 = 0)) := by
  rw [lineOpen, ← Bool.decide_and, decide_eq_decide, List.count_eq_zero]
  rcases index10 s.data.toList with ⟨h1, h2⟩ | ⟨a, b, h0, h1, h2⟩
  · rw [h2]; simp [h1]
  · rw [h2]
    have : (10 : UInt8) ∈ s.data.toList := by rw [h0]; simp
    constructor
    · rintro ⟨h, _⟩; omega
    · rintro ⟨_, h⟩; exact absurd this h
theorem ref_feeds_l0 (s : ByteArray) (hs : s.size ≤ 1000000000) : ∀ (r i k : Nat) (n : Nat), i + r = s.size → n ≤ i → r + 1 ≤ k → sennitref01_feeds.l0 k s (n : Int) (i : Int) = some (((n + (s.data.toList.drop i).count 10 : Nat) : Int))
  | 0, i, k + 1, n, hi, hn, _ => by
    rw [sennitref01_feeds.l0, if_neg (by omega), List.drop_of_length_le (by rw [← sizeLen]; omega)]
    simp
  | r + 1, i, k + 1, n, hi, hn, hk => by
    have hd := dropCons (l := s.data.toList) (i := i) (by rw [← sizeLen]; omega)
    rw [sennitref01_feeds.l0, if_pos (by omega), if_pos (by omega), btN (by omega), hd]
    obtain ⟨c, hc⟩ : ∃ c, s.data.toList[i]'(by rw [← sizeLen]; omega) = c := ⟨_, rfl⟩
    rw [hc, gw1 (i := i) (by omega), gw1 (i := n) (by omega)]
    by_cases e : c = 10
    · rw [if_pos ((byte10 c).2 e), e, List.count_cons_self, ref_feeds_l0 s hs r (i + 1) k (n + 1) (by omega) (by omega) (by omega)]
      congr 1; omega
    · rw [if_neg (fun h => e ((byte10 c).1 h)), List.count_cons_of_ne e, ref_feeds_l0 s hs r (i + 1) k n (by omega) (by omega) (by omega)]
theorem ref_feeds (s : ByteArray) (hs : s.size ≤ 1000000000) (k : Nat) (hk : s.size + 1 ≤ k) : sennitref01_feeds.f k s = some ((s.data.toList.count 10 : Nat) : Int) := by
  have := ref_feeds_l0 s hs s.size 0 k 0 (by omega) (by omega) hk
  simpa [sennitref01_feeds.f] using this
theorem last_idx (s : ByteArray) (h : 0 < s.size) : s.data.toList.getLast? = some (s.data.toList[s.size - 1]'(by rw [← sizeLen]; omega)) := by
  rw [List.getLast?_eq_getElem?, List.getElem?_eq_getElem (by simp at h ⊢; omega)]
  simp
theorem ref_line (s : ByteArray) (hs : s.size ≤ 1000000000) (k : Nat) (hk : s.size + 1 ≤ k) : sennitref01_Line.f k s = some (lineClosed s) := by
  rw [sennitref01_Line.f, ref_feeds s hs k hk, Option.bind_some, closed_eq]
  by_cases h1 : s.data.toList.count 10 = 1
  · have hp : 0 < s.size := by
      rw [sizeLen]
      exact List.length_pos_iff.2 (fun e => by rw [e] at h1; simp at h1)
    have ew : wrap64 ((s.size : Int) - 1) = ((s.size - 1 : Nat) : Int) := by rw [gw (by omega) (by omega)]; omega
    rw [if_pos (by omega), ew, if_pos (by omega), if_pos (by omega), btN (by omega), last_idx s hp]
    congr 1
    rw [decide_eq_true h1, Bool.true_and, Bool.eq_iff_iff]
    simp only [beq_iff_eq, decide_eq_true_eq, Option.some.injEq, byte10]
  · rw [if_neg (by omega), decide_eq_false h1]
    rfl
theorem ref_may_l0 (l : List ByteArray) (hl : l.length ≤ 1000000) (M : Nat) (hM : M ≤ 1000000) (hs : ∀ s ∈ l, s.size ≤ M) : ∀ (r i k : Nat), i + r = l.length → r + M + 2 ≤ k → sennitref01_May.l0 k l (i : Int) = some (mayL (l.drop i))
  | 0, i, k + 1, hi, _ => by
    rw [sennitref01_May.l0, if_neg (by omega), List.drop_of_length_le (by omega)]
    rfl
  | r + 1, i, k + 1, hi, hk => by
    have hil : i < l.length := by omega
    have hd := dropCons hil
    have hz : l[i].size ≤ M := hs _ (List.getElem_mem _)
    have ih := ref_may_l0 l hl M hM hs r (i + 1) k (by omega) (by omega)
    have hln := ref_line l[i] (by omega) k (by omega)
    have hfd := ref_feeds l[i] (by omega) k (by omega)
    rw [sennitref01_May.l0, if_pos (by omega), rdOfN hil, gw1 (by omega), gw (x := (l.length : Int) - 1) (by omega) (by omega), hln, hfd, ih, hd]
    have hm : mayL (l[i] :: l.drop (i + 1)) = ((lineClosed l[i] || ((decide (0 < l[i].size) && decide (l[i].data.toList.count 10 = 0)) && (l.drop (i + 1)).isEmpty)) && mayL (l.drop (i + 1))) := by
      rw [mayL, open_eq]
    have hnil : ((l.drop (i + 1)).isEmpty = true) ↔ ((i : Int) = (l.length : Int) - 1) := by
      rw [List.isEmpty_iff, List.drop_eq_nil_iff]; omega
    rw [hm]
    obtain ⟨m, hm⟩ : ∃ m, mayL (l.drop (i + 1)) = m := ⟨_, rfl⟩
    obtain ⟨c, hc⟩ : ∃ c, lineClosed l[i] = c := ⟨_, rfl⟩
    rw [hm, hc]
    simp only [Option.bind_some]
    clear hm hln hfd ih hd hc
    by_cases e1 : (i : Int) = (l.length : Int) - 1
    · rw [if_pos e1, if_pos (by omega), hnil.2 e1, Bool.and_true]
      by_cases e2 : 0 < l[i].size
      · rw [if_pos (by omega), decide_eq_true e2, Bool.true_and]
        by_cases e3 : l[i].data.toList.count 10 = 0
        · rw [if_pos (by omega), decide_eq_true e3]
          cases c <;> cases m <;> rfl
        · rw [if_neg (by omega), decide_eq_false e3]
          cases c <;> cases m <;> rfl
      · rw [if_neg (by omega), decide_eq_false e2]
        cases c <;> cases m <;> rfl
    · have : (l.drop (i + 1)).isEmpty = false := by
        cases hh : (l.drop (i + 1)).isEmpty
        · rfl
        · exact absurd (hnil.1 hh) e1
      rw [if_neg e1, if_pos (by omega), this, Bool.and_false]
      cases c <;> cases m <;> rfl
theorem ref_May01 (l : List ByteArray) (hl : l.length ≤ 1000000) (hs : ∀ s ∈ l, s.size ≤ 1000000) : Gives (fun k => sennitref01_May.f k l) (mayL l) :=
  ⟨l.length + 1000000 + 2, fun k hk => by
    have := ref_may_l0 l hl 1000000 (Nat.le_refl _) hs l.length 0 k (by omega) hk
    simpa [sennitref01_May.f] using this⟩

def FewT (result : List ByteArray) (ls : List (List ByteArray)) : Prop := (result.length ≤ 16 ∧ ∀ s ∈ result, s.size ≤ 100) ∧ ls.length ≤ 6 ∧ ∀ l ∈ ls, l.length ≤ 16 ∧ ∀ s ∈ l, s.size ≤ 100
section
variable {result : List ByteArray} {ls : List (List ByteArray)}
theorem FewT.sum (h : FewT result ls) : sumLen ls ≤ 96 := by
  have := sumLen_take 16 ls ls.length (fun l hl => (h.2.2 l hl).1)
  rw [List.take_length] at this
  have := h.2.1
  omega
theorem FewT.ok (h : FewT result ls) : tableOk result ls = true := by
  obtain ⟨⟨h1, h2⟩, h3, h4⟩ := h
  have h5 : sumLen ls ≤ 96 := FewT.sum ⟨⟨h1, h2⟩, h3, h4⟩
  rw [tableOk, Bool.and_eq_true, Bool.or_eq_true]
  refine ⟨decide_eq_true ⟨by omega, by omega, ?_⟩, .inr (decide_eq_true (by omega))⟩
  intro l hl
  rcases List.mem_cons.1 hl with rfl | hl
  · exact ⟨by omega, fun s hs => by have := h2 s hs; omega⟩
  · have := (h4 l hl).1
    exact ⟨by omega, fun s hs => by have := (h4 l hl).2 s hs; omega⟩
theorem FewT.table (h : FewT result ls) : table_Table.f result ls = some (tableF result ls) := by rw [table_Table.f, if_pos h.ok]

end
section
variable {result : List ByteArray} {ls : List (List ByteArray)}
theorem segRows_len (result : List ByteArray) (ls : List (List ByteArray)) (q : Nat) : (segRows result ls q).length ≤ sumLen ls := by
  rw [segRows, List.length_map]
  refine Nat.le_trans (rowsOf_le _) ?_
  rw [segsL, sumLen, sumLen, List.map_map]
  induction ls with
  | nil => simp
  | cons p t ih =>
    simp only [List.map_cons, List.sum_cons, Function.comp_apply]
    have := segL_length_le p (matchS result p) q
    have := ih
    simp only [Function.comp_def] at this ⊢
    omega
theorem tableRows_len (result : List ByteArray) (ls : List (List ByteArray)) : ∀ q, q ≤ result.length → (tableRows result ls q).length ≤ q * (sumLen ls + 1)
  | 0, _ => by simp [tableRows]
  | q + 1, h => by
    have := tableRows_len result ls q (by omega)
    have h2 := segRows_len result ls q
    rw [tableRows_succ _ _ _ h, List.length_append, List.length_append, List.length_singleton, Nat.succ_mul]
    omega
theorem FewT.rows (h : FewT result ls) {q : Nat} (hq : q ≤ result.length) : (tableRows result ls q).length ≤ 2000 := by
  have h1 := tableRows_len result ls q hq
  have h2 := h.sum
  have h3 := h.1.1
  have : q * (sumLen ls + 1) ≤ 16 * 97 := Nat.mul_le_mul (by omega) (by omega)
  omega
theorem FewT.all (h : FewT result ls) : (tableAll result ls).length ≤ 3000 := by
  rw [tableAll_eq, List.length_append]
  have := h.rows (Nat.le_refl _)
  have := segRows_len result ls result.length
  have := h.sum
  omega
end
end Go.Proofs.Ytnlekganlliikaa.X
-- part XGapSame
namespace Go.Proofs.Ytnlekganlliikaa.X
open Go.RowKit Go.Proofs.YtnlekganlliikaaW.PrintWords Go.Proofs.YtnlekganlliikaaW.PrintLast Go.Proofs.YtnlekganlliikaaW.PrintMore
set_option linter.unusedVariables false
set_option linter.unusedSimpArgs false
theorem many_of (m : Nat) (h : m < 256) : wrap64 (1 + Int.tmod (wrap64 (m : Int)) 16) = ((1 + m % 16 : Nat) : Int) := by
  rw [gw (x := (m : Int)) (by omega) (by omega), Int.tmod_eq_emod_of_nonneg (by omega), gw (by omega) (by omega)]
  omega
theorem sumLen_replicate (n : Nat) (l : List ByteArray) : sumLen (List.replicate n l) = n * l.length := by
  simp [sumLen]
theorem rowOut_all {n : Nat} (h : n ≤ 16) (s : ByteArray) : rowOut n (allMarks n, s) = ⟨bs (List.replicate n 45), s⟩ := by
  have e : (rowOut n (allMarks n, s)) = ⟨bs (((allMarks n).map markB).take n), s⟩ := rfl
  rw [e, allMarks, List.map_append, List.take_left' (by simp), List.map_replicate]
  rfl
section
variable {l : List ByteArray} {R : List ApiRow} {all : List UInt8}
end
section
variable {ls : List (List ByteArray)} {R M : List ApiRow}
end
section
variable {ls : List (List ByteArray)} {R M : List ApiRow}
end
end Go.Proofs.Ytnlekganlliikaa.X
-- part XTabSame
namespace Go.Proofs.Ytnlekganlliikaa.X
open Go.RowKit Go.Proofs.YtnlekganlliikaaW.PrintWords Go.Proofs.YtnlekganlliikaaW.PrintLast Go.Proofs.YtnlekganlliikaaW.PrintMore
set_option linter.unusedVariables false
set_option linter.unusedSimpArgs false
/-- A table with no line ahead of a line, and the same marks in each row. -/
def flat (U : List UInt8) (l : List ByteArray) : List ApiRow := l.map (fun s => ⟨bs U, s⟩)
theorem tableAll_flat {result : List ByteArray} {ls : List (List ByteArray)} (U : List UInt8) (h1 : ∀ q, (segsL result ls q).all (·.isEmpty) = true) (h2 : ∀ k, k < result.length → marksU result ls k = U) : tableAll result ls = flat U result := by
  have hs : ∀ q, segRows result ls q = [] := fun q => by rw [segRows, rowsOf_empties (h1 q)]; rfl
  have hr : ∀ q, q ≤ result.length → tableRows result ls q = flat U (result.take q) := by
    intro q
    induction q with
    | zero => intro _; rfl
    | succ q ih =>
      intro hq
      rw [tableRows_succ _ _ _ hq, ih (by omega), hs, List.append_nil, h2 q hq, ← List.take_append_getElem hq, flat, flat, List.map_append]; rfl
  rw [tableAll_eq, hr _ (Nat.le_refl _), hs, List.append_nil, List.take_length]
theorem all_empty_replicate {f : List ByteArray → List ByteArray} {n : Nat} {l : List ByteArray} (h : f l = []) : ((List.replicate n l).map f).all (·.isEmpty) = true := by
  rw [List.map_replicate, h]
  induction n with
  | zero => rfl
  | succ n ih => rw [List.replicate_succ, List.all_cons, ih]; rfl
section
variable (l : List ByteArray)
theorem self_get (q : Nat) : (matchS l l).getD q (-1) = if q < l.length then (q : Int) else -1 := by
  rw [matchS_self, List.getD_eq_getElem?_getD, List.getElem?_map]
  by_cases h : q < l.length
  · rw [if_pos h, List.getElem?_range' h]; simp
  · rw [if_neg h, List.getElem?_eq_none (by simp; omega)]; rfl
theorem self_drop (q : Nat) (h : q < l.length) : nextM ((matchS l l).drop q) l.length = q := by
  have hl : q < (matchS l l).length := by rw [matchS_length]; exact h
  have e := self_get l q
  rw [if_pos h, List.getD_eq_getElem?_getD, List.getElem?_eq_getElem hl] at e
  have e' : (matchS l l)[q] = (q : Int) := e
  rw [dropCons hl, e', nextM, if_pos (by omega), Int.toNat_natCast]
theorem self_seg (q : Nat) : segL l (matchS l l) q = [] := by
  rw [segL]
  split
  · rfl
  · rename_i a ha
    have hq : q = a ∧ q ≤ l.length := by
      cases q with
      | zero => exact ⟨Option.some.inj ha, Nat.zero_le _⟩
      | succ q =>
        rw [fromM, self_get] at ha
        by_cases h : q < l.length
        · rw [if_pos h, if_pos (by omega), Int.toNat_natCast] at ha
          exact ⟨Option.some.inj ha, h⟩
        · rw [if_neg h, if_neg (by decide)] at ha; cases ha
    obtain ⟨rfl, hq⟩ := hq
    rw [List.drop_eq_nil_iff, List.length_take]
    by_cases h : q < l.length
    · rw [self_drop l q h]; omega
    · omega
theorem table_self {n : Nat} : tableAll l (List.replicate n l) = flat (List.replicate n 32) l := by
  refine tableAll_flat _ (fun q => all_empty_replicate (self_seg l q)) fun k hk => ?_
  have e := self_get l k
  rw [if_pos hk] at e
  have hk' : k < (matchS l l).length := by rw [matchS_length]; exact hk
  have e2 : (matchS l l).getD k 0 = (k : Int) := by
    rw [List.getD_eq_getElem?_getD, List.getElem?_eq_getElem hk'] at e ⊢; exact e
  rw [marksU, List.map_replicate, e2, if_pos (by omega)]
theorem table_none {n : Nat} : tableAll l (List.replicate n []) = flat (List.replicate n 43) l := by
  refine tableAll_flat _ (fun q => all_empty_replicate ?_) fun k hk => ?_
  · rw [segL]; split <;> simp
  · have e : (matchS l []).getD k 0 = -1 := by rw [matchS_nil, List.getD_eq_getElem?_getD, List.getElem?_replicate, if_pos hk]; rfl
    rw [marksU, List.map_replicate, e, if_neg (by decide)]
theorem table_gone {n : Nat} (h0 : 0 < n) (h1 : n ≤ 16) : tableAll [] (List.replicate n l) = flat (List.replicate n 45) l := by
  have hs : segsL [] (List.replicate n l) 0 = List.replicate n l := by
    rw [segsL, List.map_replicate]
    have : segL l (matchS [] l) 0 = l := by
      have hm : matchS [] l = [] := List.length_eq_zero_iff.1 (matchS_length _ _)
      rw [hm, segL]
      show (l.take l.length).drop 0 = l
      rw [List.take_length, List.drop_zero]
    rw [this]
  rw [tableAll_eq]
  show [] ++ segRows [] (List.replicate n l) 0 = _
  rw [List.nil_append, segRows, hs, rowsOf_same l n h0 h1, List.map_map, List.length_replicate, flat]
  exact List.map_congr_left fun s _ => rowOut_all h1 s
end
theorem wrong_none {result : List ByteArray} {n : Nat} {l : List ByteArray} (h0 : 0 < n) (h1 : n ≤ 16) (hr : mayL result = true) (hl : mayL l = true) (zr : result.length ≤ 2000) (zl : l.length ≤ 2000) : wrongF mayL (result :: List.replicate n l) = 0 := by
  have hm : ∀ x ∈ result :: List.replicate n l, mayL x = true ∧ x.length ≤ 2000 := by
    intro x hx
    rcases List.mem_cons.1 hx with rfl | hx
    · exact ⟨hr, zr⟩
    · rw [(List.mem_replicate.1 hx).2]; exact ⟨hl, zl⟩
  rw [wrongF, if_neg (by simp; omega), if_neg, if_neg]
  · rw [List.any_eq_true]
    rintro ⟨x, hx, h⟩
    have := (hm x hx).2
    have := of_decide_eq_true h
    omega
  · rw [List.any_eq_true]
    rintro ⟨x, hx, h⟩
    rw [(hm x hx).1] at h; cases h
theorem table_many {result : List ByteArray} {n : Nat} {l : List ByteArray} (h0 : 0 < n) (h1 : n ≤ 16) (hr : mayL result = true) (hl : mayL l = true) (zr : result.length ≤ 16) (zl : l.length ≤ 16) (sr : ∀ s ∈ result, s.size ≤ 100) (sl : ∀ s ∈ l, s.size ≤ 100) :
    table_Table.f result (List.replicate n l) = some (tableAll result (List.replicate n l), 0) := by
  have hw := wrong_none h0 h1 hr hl (by omega) (by omega)
  have hsum : sumLen (List.replicate n l) ≤ 256 := by
    rw [sumLen_replicate]
    have := Nat.mul_le_mul h1 zl
    omega
  have hok : tableOk result (List.replicate n l) = true := by
    rw [tableOk, Bool.and_eq_true, Bool.or_eq_true]
    refine ⟨decide_eq_true ⟨by omega, by rw [List.length_replicate]; omega, ?_⟩, .inr (decide_eq_true (by omega))⟩
    intro x hx
    rcases List.mem_cons.1 hx with rfl | hx
    · exact ⟨by omega, fun s hs => by have := sr s hs; omega⟩
    · rw [(List.mem_replicate.1 hx).2]; exact ⟨by omega, fun s hs => by have := sl s hs; omega⟩
  rw [table_Table.f, if_pos hok, tableF, if_neg (by simpa using hw)]
section
variable {l : List ByteArray}
theorem flat_get (U : List UInt8) {i : Nat} (h : i < l.length) : rd_T37 (flat U l) (i : Int) = ⟨bs U, l[i]⟩ := by
  have : rd_T37 (flat U l) (i : Int) = (flat U l)[i]'(by simpa [flat] using h) := getN (by simpa [flat] using h)
  rw [this]; simp [flat]
theorem flat_len (U : List UInt8) (l : List ByteArray) : (flat U l).length = l.length := by simp [flat]
theorem bt_rep (n : Nat) (c : UInt8) {j : Nat} (h : j < n) : bt (bs (List.replicate n c)) (j : Int) = (c.toNat : Int) := by
  have hj : j < (bs (List.replicate n c)).size := by rw [bs_size, List.length_replicate]; exact h
  rw [btN hj]
  simp [bs]
theorem tsame_l2 (hl : l.length ≤ 1000) {n : Nat} (hn : n ≤ 16) {i : Nat} (hi : i < l.length) (hR : Gives (fun k => sennitlaw20_TableSame.l1 k true (n : Int) (flat (List.replicate n 32) l) 0 (flat (List.replicate n 45) l) 0 (flat (List.replicate n 43) l) 0 ((i + 1 : Nat) : Int)) true) : ∀ (r j : Nat), j + r = n →
    Gives (fun k => sennitlaw20_TableSame.l2 k true (n : Int) (flat (List.replicate n 32) l) 0 (flat (List.replicate n 45) l) 0 (flat (List.replicate n 43) l) 0 (i : Int) (j : Int)) true := by
  intro r
  induction r with
  | zero =>
    intro j hj
    refine hR.step fun k => ?_
    show sennitlaw20_TableSame.l2 (k + 1) true (n : Int) _ 0 _ 0 _ 0 (i : Int) (j : Int) = _
    rw [sennitlaw20_TableSame.l2, if_neg (by omega), gw1 (by omega)]
  | succ r ih =>
    intro j hj
    have hz : ∀ c : UInt8, (bs (List.replicate n c)).size = n := fun c => by rw [bs_size, List.length_replicate]
    refine (ih (j + 1) (by omega)).step fun k => ?_
    show sennitlaw20_TableSame.l2 (k + 1) true (n : Int) _ 0 _ 0 _ 0 (i : Int) (j : Int) = _
    have e1 := flat_get (l := l) (List.replicate n 32) hi
    have e2 := flat_get (l := l) (List.replicate n 45) hi
    have e3 := flat_get (l := l) (List.replicate n 43) hi
    have b1 := bt_rep n 32 (j := j) (by omega)
    have b2 := bt_rep n 45 (j := j) (by omega)
    have b3 := bt_rep n 43 (j := j) (by omega)
    rw [sennitlaw20_TableSame.l2, if_pos (by omega), if_pos (by omega), if_pos (by rw [flat_len]; omega), e1, if_pos (by rw [hz]), if_pos (by rw [flat_len]; omega), e2, if_pos (by rw [hz]), if_pos (by rw [flat_len]; omega), e3, if_pos (by rw [hz]), if_pos (by omega), if_pos (by rw [hz]; omega), b1, if_pos (by decide), if_pos (by rw [hz]; omega), b2, if_pos (by decide), if_pos (by rw [hz]; omega), b3, if_pos (by decide), gw1 (by omega)]
theorem tsame_l1 (hl : l.length ≤ 1000) {n : Nat} (hn : n ≤ 16) : ∀ (r i : Nat), i + r = l.length →
    Gives (fun k => sennitlaw20_TableSame.l1 k true (n : Int) (flat (List.replicate n 32) l) 0 (flat (List.replicate n 45) l) 0 (flat (List.replicate n 43) l) 0 (i : Int)) true := by
  intro r
  induction r with
  | zero =>
    intro i hi
    refine Gives.of fun k => ?_
    show sennitlaw20_TableSame.l1 (k + 1) true (n : Int) _ 0 _ 0 _ 0 (i : Int) = _
    rw [sennitlaw20_TableSame.l1, if_neg (by rw [flat_len]; omega), if_pos rfl, if_pos rfl, if_pos rfl]; rfl
  | succ r ih =>
    intro i hi
    refine (tsame_l2 hl hn (i := i) (by omega) (ih (i + 1) (by omega)) n 0 (by omega)).step fun k => ?_
    show sennitlaw20_TableSame.l1 (k + 1) true (n : Int) _ 0 _ 0 _ 0 (i : Int) = _
    rw [sennitlaw20_TableSame.l1, if_pos (by rw [flat_len]; omega)]; rfl
theorem tsame_l0 {n : Nat} (hn0 : 0 < n) (hn : n ≤ 16) {K : Bool} (hK : ∀ ls, ls = List.replicate n l → Gives (fun k => (sennitref01_Few.f k l 16).bind fun t184 => (if t184 = true then ((sennitref01_May.f k l).bind fun t185 => (sennitlaw20_TableSame.j1 k l true (n : Int) ls (!t185))) else (sennitlaw20_TableSame.j1 k l true (n : Int) ls true))) true) : ∀ (r i : Nat), i + r = n →
    Gives (fun k => sennitlaw20_TableSame.l0 k l true (n : Int) (List.replicate i l) (i : Int)) true := by
  intro r
  induction r with
  | zero =>
    intro i hi
    obtain rfl : i = n := by omega
    refine (hK _ rfl).step fun k => ?_
    show sennitlaw20_TableSame.l0 (k + 1) l true (i : Int) _ (i : Int) = _
    rw [sennitlaw20_TableSame.l0, if_neg (by omega)]
  | succ r ih =>
    intro i hi
    have := ih (i + 1) (by omega)
    rw [show List.replicate (i + 1) l = List.replicate i l ++ [l] from List.replicate_succ' ..] at this
    refine this.step fun k => ?_
    show sennitlaw20_TableSame.l0 (k + 1) l true (n : Int) _ (i : Int) = _
    rw [sennitlaw20_TableSame.l0, if_pos (by omega), if_pos (by rw [List.length_replicate]; omega), gw1 (by omega)]
end
theorem same20 (l : List ByteArray) (m : Nat) (hm : m < 256) : Gives (fun k => sennitlaw20_TableSame.f k l (m : Int)) true := by
  obtain ⟨n, hn⟩ : ∃ n, 1 + m % 16 = n := ⟨_, rfl⟩
  have h0 : 0 < n := by omega
  have h1 : n ≤ 16 := by omega
  have hj : ∀ ls, Gives (fun k => sennitlaw20_TableSame.j1 k l true (n : Int) ls true) true := fun ls => Gives.of fun k => by
    show sennitlaw20_TableSame.j1 (k + 1) l true (n : Int) ls true = _
    rw [sennitlaw20_TableSame.j1, if_pos rfl]
  have hf : Gives (fun k => sennitref01_Few.f k l 16) (fewB l 16) := ref_few01 l 16 (by omega)
  have hK : ∀ ls, ls = List.replicate n l → Gives (fun k => (sennitref01_Few.f k l 16).bind fun t184 => (if t184 = true then ((sennitref01_May.f k l).bind fun t185 => (sennitlaw20_TableSame.j1 k l true (n : Int) ls (!t185))) else (sennitlaw20_TableSame.j1 k l true (n : Int) ls true))) true := by
    rintro _ rfl
    cases hb : fewB l 16 with
    | false =>
      rw [hb] at hf
      refine Gives.call0 hf (hj (List.replicate n l)) fun k hk => ?_
      show Option.bind _ _ = _
      rw [hk, Option.bind_some, if_neg (by decide)]
    | true =>
      rw [hb] at hf
      obtain ⟨z1, z2⟩ := of_decide_eq_true hb
      have hmay := ref_May01 l (by omega) (fun s hs => by have := z2 s hs; omega)
      cases hc : mayL l with
      | false =>
        rw [hc] at hmay
        refine Gives.call0 hf (Gives.call0 hmay (hj (List.replicate n l)) (f := fun k => (sennitref01_May.f k l).bind fun t185 => (sennitlaw20_TableSame.j1 k l true (n : Int) (List.replicate n l) (!t185))) fun k hk => ?_) fun k hk => ?_
        · show Option.bind _ _ = _
          rw [hk, Option.bind_some]; rfl
        · show Option.bind _ _ = _
          rw [hk, Option.bind_some, if_pos rfl]
      | true =>
        rw [hc] at hmay
        have t1 := table_many (result := l) (l := l) h0 h1 hc hc z1 z1 z2 z2
        have t2 := table_many (result := []) (l := l) h0 h1 rfl hc (by simp) z1 (by simp) z2
        have t3 := table_many (result := l) (l := []) h0 h1 hc rfl z1 (by simp) z2 (by simp)
        rw [table_self] at t1
        rw [table_gone l h0 h1] at t2
        rw [table_none] at t3
        have hloop := tsame_l1 (l := l) (by omega) h1 l.length 0 (by omega)
        have hj2 : Gives (fun k => sennitlaw20_TableSame.j2 k true (n : Int) (flat (List.replicate n 32) l) 0 (flat (List.replicate n 45) l) 0 (flat (List.replicate n 43) l) 0 false) true := hloop.step fun k => by
          show sennitlaw20_TableSame.j2 (k + 1) true (n : Int) _ 0 _ 0 _ 0 false = _
          rw [sennitlaw20_TableSame.j2, if_neg (by decide)]; rfl
        have hj1 : Gives (fun k => sennitlaw20_TableSame.j1 k l true (n : Int) (List.replicate n l) false) true := hj2.step fun k => by
          show sennitlaw20_TableSame.j1 (k + 1) l true (n : Int) (List.replicate n l) false = _
          have hlen : (((flat (List.replicate n 43) l).length : Int) != (l.length : Int)) = false := by rw [flat_len]; simp
          rw [sennitlaw20_TableSame.j1, if_neg (by decide), t1, Option.bind_some, t2, Option.bind_some, if_pos (by omega), if_pos (by omega), Int.toNat_natCast, t3, Option.bind_some, if_pos (by rw [flat_len]), if_pos (by rw [flat_len]), hlen]
        refine Gives.call0 hf (Gives.call0 hmay hj1 (f := fun k => (sennitref01_May.f k l).bind fun t185 => (sennitlaw20_TableSame.j1 k l true (n : Int) (List.replicate n l) (!t185))) fun k hk => ?_) fun k hk => ?_
        · show Option.bind _ _ = _
          rw [hk, Option.bind_some]; rfl
        · show Option.bind _ _ = _
          rw [hk, Option.bind_some, if_pos rfl]
  have hl0 := tsame_l0 (l := l) (K := true) h0 h1 hK n 0 (by omega)
  refine hl0.same fun k => ?_
  show sennitlaw20_TableSame.f k l (m : Int) = _
  rw [sennitlaw20_TableSame.f, awake20, Option.bind_some, many_of m hm, hn]; rfl
theorem law_TableSame (W : World) (A0 : Option Addr) (c0 : Nat) (l0 : List ByteArray) (hr0 : Kd.C Kd.string W A0 l0.length l0) (hc0 : l0.length ≤ c0) (g0 : l0.length * 16 ≤ 140737488351232 ∧ ∀ y ∈ l0, y.size ≤ 140737488351232) (x1 : Int) (g1 : (Lit.int .u8 x1).wf = true) :
    Calls Try.prog 13 #[.slice A0 l0.length c0, .int .u8 x1] W fun e w' => e = .returned (.bool true) ∧ Below W.heap.size W w' := by
  obtain ⟨m, rfl, hm⟩ := u8N g1
  obtain ⟨k, hk⟩ := same20 l0 m hm
  exact sennitlaw20_TableSame.calls k (fun _ => True) A0 c0 l0 (m : Int) true W (V_of_C Kd.heap_string hr0 hc0) (hk k (Nat.le_refl _))
end Go.Proofs.Ytnlekganlliikaa.X
