/-
  Parts of one proof, one behind the other: XTabMath, XTabRows, XTabTells, XTabCols.
-/
import Derived.Test.YtnlekganlliikaaBTableColumns4
-- part XTabMath
namespace Go.Proofs.Ytnlekganlliikaa.X
open Go.RowKit Go.Proofs.YtnlekganlliikaaW.PrintWords Go.Proofs.YtnlekganlliikaaW.PrintLast Go.Proofs.YtnlekganlliikaaW.PrintMore
set_option linter.unusedVariables false
set_option linter.unusedSimpArgs false
/-- Where the next pairing is. -/
def nextM : List Int → Nat → Nat
  | [], n => n
  | m :: t, n => if 0 ≤ m then m.toNat else nextM t n
/-- Where the lines ahead of a line begin, if any may be there. -/
def fromM (ms : List Int) : Nat → Option Nat
  | 0 => some 0
  | q + 1 => if 0 ≤ ms.getD q (-1) then some ((ms.getD q (-1)).toNat + 1) else none
/-- The parent's lines ahead of a line of the result. -/
def segL (p : List ByteArray) (ms : List Int) (q : Nat) : List ByteArray :=
  match fromM ms q with
  | none => []
  | some a => (p.take (nextM (ms.drop q) p.length)).drop a
def updSeg (N col : Nat) (p : List ByteArray) (ms : List Int) (lost : Nat → Option (List (List ByteArray))) (q : Nat) : Option (List (List ByteArray)) :=
  if segL p ms q = [] then lost q else some (((lost q).getD (List.replicate N [])).set col (segL p ms q))
theorem Fits.next {list : List ByteArray} : ∀ {ms : List Int} {ss : List ByteArray} {lo : Nat}, Fits list ms ss lo → lo ≤ nextM ms list.length ∧ nextM ms list.length ≤ list.length
  | [], [], lo, h => ⟨h, Nat.le_refl _⟩
  | [], _ :: _, lo, h => h.elim
  | m :: ms, s :: ss, lo, h => by
    rcases h with ⟨rfl, h⟩ | ⟨k, rfl, h1, h2, h3⟩
    · rw [nextM, if_neg (by decide)]; exact h.next
    · have := (List.getElem?_eq_some_iff.1 h2).1
      rw [nextM, if_pos (by omega), Int.toNat_natCast]; omega
  | _ :: _, [], lo, h => h.elim
theorem Fits.at_ {list : List ByteArray} : ∀ {ms : List Int} {ss : List ByteArray} {lo : Nat}, Fits list ms ss lo → ∀ q, q < ms.length → (ms.getD q (-1) = -1) ∨ ∃ k : Nat, ms.getD q (-1) = (k : Int) ∧ list[k]? = ss[q]? ∧ k < list.length ∧ k + 1 ≤ nextM (ms.drop (q + 1)) list.length
  | [], ss, lo, h, q, hq => absurd hq (by simp)
  | m :: ms, s :: ss, lo, h, 0, hq => by
    rcases h with ⟨rfl, h⟩ | ⟨k, rfl, h1, h2, h3⟩
    · exact .inl rfl
    · exact .inr ⟨k, rfl, by rw [h2]; rfl, (List.getElem?_eq_some_iff.1 h2).1, h3.next.1⟩
  | m :: ms, s :: ss, lo, h, q + 1, hq => by
    have hq' : q < ms.length := by simpa using hq
    rcases h with ⟨rfl, h⟩ | ⟨k, rfl, h1, h2, h3⟩
    · exact h.at_ q hq'
    · exact h3.at_ q hq'
  | _ :: _, [], lo, h, q, hq => h.elim
theorem Fits.drop_next {list : List ByteArray} : ∀ {ms : List Int} {ss : List ByteArray} {lo : Nat}, Fits list ms ss lo → ∀ q, nextM (ms.drop q) list.length ≤ list.length
  | ms, ss, lo, h, 0 => h.next.2
  | [], ss, lo, h, q + 1 => Nat.le_refl _
  | m :: ms, s :: ss, lo, h, q + 1 => by
    rcases h with ⟨rfl, h⟩ | ⟨k, rfl, h1, h2, h3⟩
    · exact h.drop_next q
    · exact h3.drop_next q
  | _ :: _, [], lo, h, q + 1 => h.elim
theorem Fits.from_le {list ss : List ByteArray} {ms : List Int} (h : Fits list ms ss 0) {q a : Nat} (e : fromM ms q = some a) : a ≤ nextM (ms.drop q) list.length := by
  cases q with
  | zero => obtain rfl := (Option.some.inj e).symm; exact Nat.zero_le _
  | succ q =>
    rw [fromM] at e
    split at e
    · rename_i h0
      have hq : q < ms.length := by
        apply Classical.byContradiction
        intro hn
        rw [List.getD_eq_getElem?_getD, List.getElem?_eq_none (by omega)] at h0
        simp at h0
      rcases h.at_ q hq with h1 | ⟨k, h1, _, _, h2⟩
      · rw [h1] at h0; omega
      · rw [h1] at e; have := Option.some.inj e; simp at this; omega
    · cases e
theorem nextM_skip {ms : List Int} {L : Nat} (last : Nat) : ∀ (n : Nat), last + n ≤ ms.length → (∀ j, last ≤ j → j < last + n → ms.getD j (-1) < 0) → nextM (ms.drop last) L = nextM (ms.drop (last + n)) L
  | 0, _, _ => rfl
  | n + 1, hl, hn => by
    rw [nextM_skip last n (by omega) (fun j h1 h2 => hn j h1 (by omega)), dropCons (i := last + n) (by omega), nextM]
    have := hn (last + n) (by omega) (by omega)
    rw [show ms.getD (last + n) (-1) = ms[last + n] by simp [List.getD_eq_getElem?_getD, List.getElem?_eq_getElem (show last + n < ms.length by omega)]] at this
    rw [if_neg (by omega)]; rfl
theorem fromM_none {ms : List Int} {last i q : Nat} (h : ∀ j, last ≤ j → j < i → ms.getD j (-1) < 0) (h1 : last < q) (h2 : q ≤ i ∨ ms.length ≤ i) : fromM ms q = none := by
  obtain ⟨q, rfl⟩ : ∃ q', q = q' + 1 := ⟨q - 1, by omega⟩
  rw [fromM]
  have : ms.getD q (-1) < 0 := by
    by_cases hq : q < i
    · exact h q (by omega) hq
    · rw [List.getD_eq_getElem?_getD, List.getElem?_eq_none (by omega)]; decide
  rw [if_neg (by omega)]
theorem segL_none {p : List ByteArray} {ms : List Int} {q : Nat} (h : fromM ms q = none) : segL p ms q = [] := by rw [segL, h]
theorem loseAt_eq {N col : Nat} {p : List ByteArray} {ms : List Int} {lost : Nat → Option (List (List ByteArray))} {at_ last : Nat} (hF : nextM (ms.drop last) p.length ≤ p.length) (ha : fromM ms last = some at_) (q : Nat) :
    loseAt N col p lost (nextM (ms.drop last) p.length) at_ last q = if q = last then updSeg N col p ms lost q else lost q := by
  have hs : segL p ms last = (p.take (nextM (ms.drop last) p.length)).drop at_ := by rw [segL, ha]
  by_cases hq : q = last
  · subst hq
    rw [if_pos rfl, updSeg, hs, loseAt]
    by_cases h : at_ < nextM (ms.drop q) p.length
    · have hne : ¬ (p.take (nextM (ms.drop q) p.length)).drop at_ = [] := by rw [List.drop_eq_nil_iff, List.length_take]; omega
      rw [if_pos h, if_neg hne]
      exact if_pos rfl
    · rw [if_neg h, if_pos (List.drop_eq_nil_iff.2 (by simp; omega))]
  · rw [if_neg hq, loseAt]
    split
    · simp [hq]
    · rfl
theorem pairGo_eq {N col : Nat} {p ss : List ByteArray} {ms : List Int} (hF : Fits p ms ss 0) : ∀ (t : List Int) (i at_ last : Nat) (lost : Nat → Option (List (List ByteArray))), ms.drop i = t → last ≤ i → i ≤ ms.length → fromM ms last = some at_ → (∀ j, last ≤ j → j < i → ms.getD j (-1) < 0) →
    ∀ q, pairGo N col p t i at_ last lost q = if q < last then lost q else updSeg N col p ms lost q
  | [], i, at_, last, lost, hd, hli, hi, ha, hn, q => by
    have hlen : ms.length ≤ i := List.drop_eq_nil_iff.1 hd
    have hnx : nextM (ms.drop last) p.length = p.length := by
      rw [nextM_skip last (i - last) (by omega) (fun j a b => hn j a (by omega)), show last + (i - last) = i by omega, hd]; rfl
    have := loseAt_eq (N := N) (col := col) (lost := lost) (by rw [hnx]; exact Nat.le_refl _) ha q
    rw [hnx] at this
    rw [pairGo, this]
    by_cases h1 : q < last
    · rw [if_neg (by omega), if_pos h1]
    · rw [if_neg h1]
      by_cases h2 : q = last
      · rw [if_pos h2]
      · rw [if_neg h2, updSeg, if_pos (segL_none (fromM_none hn (by omega) (.inr hlen)))]
  | m :: t, i, at_, last, lost, hd, hli, hi, ha, hn, q => by
    have hil : i < ms.length := by
      apply Classical.byContradiction
      intro h
      rw [List.drop_of_length_le (by omega)] at hd
      cases hd
    rw [dropCons hil] at hd
    have hm : ms[i] = m := (List.cons.inj hd).1
    have ht : ms.drop (i + 1) = t := (List.cons.inj hd).2
    have hg : ms.getD i (-1) = m := by rw [← hm]; simp [List.getD_eq_getElem?_getD, List.getElem?_eq_getElem hil]
    rw [pairGo]
    by_cases h0 : 0 ≤ m
    · rw [if_pos h0, pairGo_eq hF t (i + 1) (m.toNat + 1) (i + 1) _ ht (Nat.le_refl _) hil (by rw [fromM, hg, if_pos h0]) (fun j a b => by omega) q]
      have hnx : nextM (ms.drop last) p.length = m.toNat := by
        rw [nextM_skip last (i - last) (by omega) (fun j a b => hn j a (by omega)), show last + (i - last) = i by omega, dropCons hil, nextM, hm, if_pos h0]
      have := loseAt_eq (N := N) (col := col) (lost := lost) (hF.drop_next last) ha
      rw [hnx] at this
      by_cases h1 : q < last
      · rw [if_pos (by omega), if_pos h1, this q, if_neg (by omega)]
      · rw [if_neg h1]
        by_cases h2 : q = last
        · rw [if_pos (by omega), this q, if_pos h2]
        · by_cases h3 : q < i + 1
          · rw [if_pos h3, this q, if_neg h2, updSeg, if_pos (segL_none (fromM_none hn (by omega) (.inl (by omega))))]
          · rw [if_neg h3, updSeg, updSeg, this q, if_neg h2]
    · rw [if_neg h0, pairGo_eq hF t (i + 1) at_ last lost ht (by omega) hil ha (fun j a b => by
        by_cases hj : j = i
        · subst hj; rw [hg]; omega
        · exact hn j a (by omega)) q]
/-- The parents' lines ahead of a line of the result. -/
def segsL (result : List ByteArray) (ps : List (List ByteArray)) (q : Nat) : List (List ByteArray) := ps.map (fun p => segL p (matchS result p) q)
theorem segsL_length (result : List ByteArray) (ps : List (List ByteArray)) (q : Nat) : (segsL result ps q).length = ps.length := List.length_map ..
theorem empties {ls : List (List ByteArray)} (h : ls.all (·.isEmpty) = true) : ls = List.replicate ls.length [] := by
  induction ls with
  | nil => rfl
  | cons l t ih =>
    simp only [List.all_cons, Bool.and_eq_true, List.isEmpty_iff] at h
    rw [List.length_cons, List.replicate_succ, h.1, ← ih h.2]
theorem lostK_eq (result : List ByteArray) (parents : List (List ByteArray)) (q : Nat) : ∀ k, k ≤ parents.length → lostK result parents k q = if (segsL result (parents.take k) q).all (·.isEmpty) = true then none else some (segsL result (parents.take k) q ++ List.replicate (parents.length - k) [])
  | 0, _ => by
    rw [List.take_zero]; rfl
  | k + 1, hk => by
    have hkl : k < parents.length := by omega
    have ih := lostK_eq result parents q k (by omega)
    have hpg : pairGo parents.length k (parents.getD k []) (matchS result (parents.getD k [])) 0 0 0 (lostK result parents k) q = _ := pairGo_eq (matchS_fits result _) _ 0 0 0 _ rfl (Nat.le_refl _) (Nat.zero_le _) rfl (fun j a b => by omega) q
    rw [lostK_succ _ _ hkl, hpg, if_neg (by omega), updSeg]
    have hp : parents.getD k [] = parents[k] := by simp [hkl]
    have hs : segsL result (parents.take (k + 1)) q = segsL result (parents.take k) q ++ [segL (parents.getD k []) (matchS result (parents.getD k [])) q] := by
      rw [← List.take_append_getElem hkl, segsL, List.map_append, hp]; rfl
    rw [hs]
    obtain ⟨S, hS⟩ : ∃ S, segsL result (parents.take k) q = S := ⟨_, rfl⟩
    obtain ⟨s, hs1⟩ : ∃ s, segL (parents.getD k []) (matchS result (parents.getD k [])) q = s := ⟨_, rfl⟩
    have hSl : S.length = k := by rw [← hS, segsL_length, List.length_take]; omega
    rw [hS] at ih
    rw [hS, hs1]
    have hrep : List.replicate (parents.length - k) ([] : List ByteArray) = [] :: List.replicate (parents.length - (k + 1)) [] := by
      rw [show parents.length - k = (parents.length - (k + 1)) + 1 by omega, List.replicate_succ]
    by_cases e : s = []
    · subst e
      rw [if_pos rfl, ih, List.all_append]
      have : ([[]] : List (List ByteArray)).all (·.isEmpty) = true := rfl
      rw [this, Bool.and_true, hrep]
      simp
    · have hne : (S ++ [s]).all (·.isEmpty) = false := by
        rw [List.all_append]
        have : ([s] : List (List ByteArray)).all (·.isEmpty) = false := by
          cases s with
          | nil => exact absurd rfl e
          | cons a b => rfl
        rw [this, Bool.and_false]
      rw [if_neg e, hne, if_neg (by decide)]
      have hget : (lostK result parents k q).getD (List.replicate parents.length []) = S ++ List.replicate (parents.length - k) [] := by
        rw [ih]
        by_cases ha : S.all (·.isEmpty) = true
        · rw [if_pos ha, Option.getD_none]
          have := empties ha
          rw [hSl] at this
          rw [this, List.replicate_append_replicate]
          congr 1; omega
        · rw [if_neg ha]; rfl
      rw [hget, hrep, List.set_append, if_neg (by omega), hSl, Nat.sub_self, List.set_cons_zero, List.append_assoc]; rfl
theorem lostAll_eq (result : List ByteArray) (parents : List (List ByteArray)) (q : Nat) : lostAll result parents q = if (segsL result parents q).all (·.isEmpty) = true then none else some (segsL result parents q) := by
  have := lostK_eq result parents q parents.length (Nat.le_refl _)
  rw [List.take_length, Nat.sub_self, List.replicate_zero, List.append_nil, lostK, List.take_length] at this
  exact this
theorem rowsOf_empties {ls : List (List ByteArray)} (h : ls.all (·.isEmpty) = true) : rowsOf ls = [] := by
  have h1 := rowsOf_le ls
  have h2 : sumLen ls = 0 := by
    rw [empties h]; simp [sumLen]
  rw [h2] at h1
  exact List.length_eq_zero_iff.1 (by omega)
theorem lostRows_eq (result : List ByteArray) (parents : List (List ByteArray)) (q : Nat) : lostRows (lostAll result parents q) = (rowsOf (segsL result parents q)).map (rowOut parents.length) := by
  rw [lostAll_eq]
  by_cases h : (segsL result parents q).all (·.isEmpty) = true
  · rw [if_pos h, lostRows, rowsOf_empties h]; rfl
  · rw [if_neg h, lostRows, segsL_length]
def marksU (result : List ByteArray) (ps : List (List ByteArray)) (k : Nat) : List UInt8 := ps.map (fun p => if 0 ≤ (matchS result p).getD k 0 then 32 else 43)
theorem markS_bs (m : Int) : markS m = bs [if 0 ≤ m then 32 else 43] := by
  unfold markS
  split <;> rfl
theorem marksK_eq (result : List ByteArray) (parents : List (List ByteArray)) (q : Nat) (hq : q < result.length) : ∀ k, k ≤ parents.length → (marksK result parents k).getD (q + 1) ByteArray.empty = bs (marksU result (parents.take k) q)
  | 0, _ => by
    show ((⟨#[32]⟩ :: List.replicate result.length ByteArray.empty).getD (q + 1) ByteArray.empty) = _
    rw [List.getD_cons_succ]
    simp [List.getD_eq_getElem?_getD, List.getElem?_replicate, hq, marksU]
    rfl
  | k + 1, hk => by
    have hkl : k < parents.length := by omega
    have hp : parents.getD k [] = parents[k] := by simp [hkl]
    have hM := (marksK_ok result parents k (by omega)).1
    have ih := marksK_eq result parents q hq k (by omega)
    rw [marksK_succ _ _ hkl, marksF, List.getD_cons_succ]
    have hml := matchS_length result (parents.getD k [])
    have h1 : q < (marksK result parents k).tail.length := by simp [hM]; exact hq
    have h2 : q < (matchS result (parents.getD k [])).length := by rw [hml]; exact hq
    have h3 : (marksK result parents k).tail[q] = (marksK result parents k).getD (q + 1) ByteArray.empty := by
      rw [List.getElem_tail]; simp [List.getD_eq_getElem?_getD, List.getElem?_eq_getElem (show q + 1 < (marksK result parents k).length by omega)]
    have h4 : (matchS result (parents.getD k [])).getD q 0 = (matchS result (parents.getD k []))[q] := by rw [List.getD_eq_getElem?_getD, List.getElem?_eq_getElem h2]; rfl
    rw [List.getD_eq_getElem?_getD, List.getElem?_zipWith, List.getElem?_eq_getElem h1, List.getElem?_eq_getElem h2]
    show (marksK result parents k).tail[q] ++ markS (matchS result (parents.getD k []))[q] = _
    rw [h3, ih, markS_bs, bs_append, ← List.take_append_getElem hkl, marksU, marksU, List.map_append, ← hp, ← h4]; rfl
theorem marksAll_eq (result : List ByteArray) (parents : List (List ByteArray)) (q : Nat) (hq : q < result.length) : (marksAll result parents).getD (q + 1) ByteArray.empty = bs (marksU result parents q) := by
  have := marksK_eq result parents q hq parents.length (Nat.le_refl _)
  rwa [marksK, List.take_length] at this
/-- The rows ahead of a line of the result. -/
def segRows (result : List ByteArray) (parents : List (List ByteArray)) (q : Nat) : List ApiRow := (rowsOf (segsL result parents q)).map (rowOut parents.length)
theorem tableRows_succ (result : List ByteArray) (parents : List (List ByteArray)) (k : Nat) (hk : k < result.length) : tableRows result parents (k + 1) = tableRows result parents k ++ segRows result parents k ++ [⟨bs (marksU result parents k), result[k]⟩] := by
  rw [tableRows, lostRows_eq, marksAll_eq _ _ _ hk, show result.getD k ByteArray.empty = result[k] by simp [hk]]; rfl
theorem tableAll_eq (result : List ByteArray) (parents : List (List ByteArray)) : tableAll result parents = tableRows result parents result.length ++ segRows result parents result.length := by
  rw [tableAll, lostRows_eq]; rfl
/-- What stands ahead of a line is part of the parent. -/
theorem segL_length_le (p : List ByteArray) (ms : List Int) (q : Nat) : (segL p ms q).length ≤ p.length := by
  unfold segL
  split
  · simp
  · simp; omega
end Go.Proofs.Ytnlekganlliikaa.X
-- part XTabRows
namespace Go.Proofs.Ytnlekganlliikaa.X
open Go.RowKit Go.Proofs.YtnlekganlliikaaW.PrintWords Go.Proofs.YtnlekganlliikaaW.PrintLast Go.Proofs.YtnlekganlliikaaW.PrintMore
set_option linter.unusedVariables false
set_option linter.unusedSimpArgs false
theorem awake20 : sennitlaw20_awake.f = some true := by decide +kernel
theorem index45_cases (u : List UInt8) : (¬ (45 : UInt8) ∈ u ∧ Lib.indexByte u 45 = -1) ∨ ((45 : UInt8) ∈ u ∧ 0 ≤ Lib.indexByte u 45) := by
  induction u with
  | nil => left; simp [Lib.indexByte]
  | cons x xs ih =>
    simp only [Lib.indexByte, List.mem_cons]
    by_cases e : x = 45
    · right; simp [e]
    · have e' : (x == 45) = false := by simp [e]
      have e2 : ¬ (45 : UInt8) = x := fun h => e h.symm
      rw [e']
      rcases ih with ⟨h1, h2⟩ | ⟨h1, h2⟩
      · left; simp [h1, h2, e2]
      · right
        refine ⟨.inr h1, ?_⟩
        rw [if_neg (by decide), if_neg (by simp; omega)]
        omega
theorem index45 (u : List UInt8) : decide (0 ≤ Lib.indexByte u 45) = decide ((45 : UInt8) ∈ u) := by
  rw [decide_eq_decide]
  rcases index45_cases u with ⟨h1, h2⟩ | ⟨h1, h2⟩
  · simp [h1, h2]
  · simp [h1, h2]
theorem byte45 (c : UInt8) : ((c.toNat : Int) = 45) ↔ c = 45 := by
  constructor
  · intro h
    have : c.toNat = 45 := by omega
    exact UInt8.toNat_inj.1 this
  · rintro rfl; rfl
theorem lostB_mem (s : ByteArray) : lostB s = decide ((45 : UInt8) ∈ s.data.toList) := index45 _
section
variable {R : List ApiRow}
theorem col_f (i : Int) (hR : R.length ≤ 1000000000) (hz : ∀ x ∈ R, x.f0.size ≤ 1000000000) : table_Column.f R i = some ((R.filter (fun x => ofB i x.f0)).map (·.f1)) := by
  rw [table_Column.f, if_pos ⟨hR, fun x hx => by have := hz x hx; omega⟩]
theorem res_f (hR : R.length ≤ 1000000000) (hz : ∀ x ∈ R, x.f0.size ≤ 1000000000) : table_Result.f R = some ((R.filter (fun x => !lostB x.f0)).map (·.f1)) := by
  rw [table_Result.f, if_pos ⟨hR, fun x hx => by have := hz x hx; omega⟩]
end
end Go.Proofs.Ytnlekganlliikaa.X
-- part XTabTells
namespace Go.Proofs.Ytnlekganlliikaa.X
open Go.RowKit Go.Proofs.YtnlekganlliikaaW.PrintWords Go.Proofs.YtnlekganlliikaaW.PrintLast Go.Proofs.YtnlekganlliikaaW.PrintMore
set_option linter.unusedVariables false
set_option linter.unusedSimpArgs false
theorem byte10 (c : UInt8) : ((c.toNat : Int) = 10) ↔ c = 10 := by
  constructor
  · intro h
    have : c.toNat = 10 := by omega
    exact UInt8.toNat_inj.1 this
  · rintro rfl; rfl
theorem index10 (u : List UInt8) : (¬ (10 : UInt8) ∈ u ∧ Lib.indexByte u 10 = -1) ∨ (∃ a b, u = a ++ 10 :: b ∧ ¬ (10 : UInt8) ∈ a ∧ Lib.indexByte u 10 = (a.length : Int)) := by
  induction u with
  | nil => left; simp [Lib.indexByte]
  | cons x xs ih =>
    simp only [Lib.indexByte]
    by_cases e : x = 10
    · right; exact ⟨[], xs, by rw [e]; rfl, by simp, by simp [e]⟩
    · have e' : (x == 10) = false := by simp [e]
      have e2 : ¬ (10 : UInt8) = x := fun h => e h.symm
      rw [e']
      rcases ih with ⟨h1, h2⟩ | ⟨a, b, h0, h1, h2⟩
      · left; simp [h1, h2, e2]
      · right
        refine ⟨x :: a, b, by rw [h0]; rfl, by simp [e2, h1], ?_⟩
        rw [if_neg (by decide), if_neg (by simp; omega), h2]
        simp
theorem closed_eq (s : ByteArray) : lineClosed s = (decide (s.data.toList.count 10 = 1) && decide (s.data.toList.getLast? = some 10)) := by
  have hs := sizeLen s
  rw [lineClosed, ← Bool.decide_and, decide_eq_decide]
  rcases index10 s.data.toList with ⟨h1, h2⟩ | ⟨a, b, h0, h1, h2⟩
  · rw [h2, List.count_eq_zero.2 h1]; omega
  · rw [h2, hs, h0, List.count_append, List.count_eq_zero.2 h1, List.count_cons_self, List.length_append, List.length_cons]
    cases b with
    | nil => simp
    | cons y t =>
      rw [List.getLast?_append, List.getLast?_cons_cons]
      constructor
      · intro ⟨_, h⟩; rw [List.length_cons] at h; omega
      · rintro ⟨h3, h4⟩
        have h5 : (y :: t).getLast? = some 10 := by
          cases hg : (y :: t).getLast? with
          | none => simp at hg
          | some z => rw [hg] at h4; exact h4
        have := List.count_pos_iff.2 (List.mem_of_getLast? h5)
        omega
theorem open_eq (s : ByteArray) : lineOpen s = (decide (0 < s.size) && decide (s.data.toList.count 10 = 0)) := by
  rw [lineOpen, ← Bool.decide_and, decide_eq_decide, List.count_eq_zero]
  rcases index10 s.data.toList with ⟨h1, h2⟩ | ⟨a, b, h0, h1, h2⟩
  · rw [h2]; simp [h1]
  · rw [h2]
    have : (10 : UInt8) ∈ s.data.toList := by rw [h0]; simp
    constructor
    · rintro ⟨h, _⟩; omega
    · rintro ⟨_, h⟩; exact absurd this h
theorem ref_feeds_l0 (s : ByteArray) (hs : s.size ≤ 1000000000) : ∀ (r i k : Nat) (n : Nat), i + r = s.size → n ≤ i → r + 1 ≤ k → sennitref01_feeds.l0 k s (n : Int) (i : Int) = some (((n + (s.data.toList.drop i).count 10 : Nat) : Int))
  | 0, i, k + 1, n, hi, hn, _ => by
    rw [sennitref01_feeds.l0, if_neg (by omega), List.drop_of_length_le (by rw [← sizeLen]; omega)]
    simp
  | r + 1, i, k + 1, n, hi, hn, hk => by
    have hd := dropCons (l := s.data.toList) (i := i) (by rw [← sizeLen]; omega)
    rw [sennitref01_feeds.l0, if_pos (by omega), if_pos (by omega), btN (by omega), hd]
    obtain ⟨c, hc⟩ : ∃ c, s.data.toList[i]'(by rw [← sizeLen]; omega) = c := ⟨_, rfl⟩
    rw [hc, gw1 (i := i) (by omega), gw1 (i := n) (by omega)]
    by_cases e : c = 10
    · rw [if_pos ((byte10 c).2 e), e, List.count_cons_self, ref_feeds_l0 s hs r (i + 1) k (n + 1) (by omega) (by omega) (by omega)]
      congr 1; omega
    · rw [if_neg (fun h => e ((byte10 c).1 h)), List.count_cons_of_ne e, ref_feeds_l0 s hs r (i + 1) k n (by omega) (by omega) (by omega)]
theorem ref_feeds (s : ByteArray) (hs : s.size ≤ 1000000000) (k : Nat) (hk : s.size + 1 ≤ k) : sennitref01_feeds.f k s = some ((s.data.toList.count 10 : Nat) : Int) := by
  have := ref_feeds_l0 s hs s.size 0 k 0 (by omega) (by omega) hk
  simpa [sennitref01_feeds.f] using this
theorem last_idx (s : ByteArray) (h : 0 < s.size) : s.data.toList.getLast? = some (s.data.toList[s.size - 1]'(by rw [← sizeLen]; omega)) := by
  rw [List.getLast?_eq_getElem?, List.getElem?_eq_getElem (by simp at h ⊢; omega)]
  simp
theorem ref_line (s : ByteArray) (hs : s.size ≤ 1000000000) (k : Nat) (hk : s.size + 1 ≤ k) : sennitref01_Line.f k s = some (lineClosed s) := by
  rw [sennitref01_Line.f, ref_feeds s hs k hk, Option.bind_some, closed_eq]
  by_cases h1 : s.data.toList.count 10 = 1
  · have hp : 0 < s.size := by
      rw [sizeLen]
      exact List.length_pos_iff.2 (fun e => by rw [e] at h1; simp at h1)
    have ew : wrap64 ((s.size : Int) - 1) = ((s.size - 1 : Nat) : Int) := by rw [gw (by omega) (by omega)]; omega
    rw [if_pos (by omega), ew, if_pos (by omega), if_pos (by omega), btN (by omega), last_idx s hp]
    congr 1
    rw [decide_eq_true h1, Bool.true_and, Bool.eq_iff_iff]
    simp only [beq_iff_eq, decide_eq_true_eq, Option.some.injEq, byte10]
  · rw [if_neg (by omega), decide_eq_false h1]
    rfl
theorem ref_may_l0 (l : List ByteArray) (hl : l.length ≤ 1000000) (M : Nat) (hM : M ≤ 1000000) (hs : ∀ s ∈ l, s.size ≤ M) : ∀ (r i k : Nat), i + r = l.length → r + M + 2 ≤ k → sennitref01_May.l0 k l (i : Int) = some (mayL (l.drop i))
  | 0, i, k + 1, hi, _ => by
    rw [sennitref01_May.l0, if_neg (by omega), List.drop_of_length_le (by omega)]
    rfl
  | r + 1, i, k + 1, hi, hk => by
    have hil : i < l.length := by omega
    have hd := dropCons hil
    have hz : l[i].size ≤ M := hs _ (List.getElem_mem _)
    have ih := ref_may_l0 l hl M hM hs r (i + 1) k (by omega) (by omega)
    have hln := ref_line l[i] (by omega) k (by omega)
    have hfd := ref_feeds l[i] (by omega) k (by omega)
    rw [sennitref01_May.l0, if_pos (by omega), rdOfN hil, gw1 (by omega), gw (x := (l.length : Int) - 1) (by omega) (by omega), hln, hfd, ih, hd]
    have hm : mayL (l[i] :: l.drop (i + 1)) = ((lineClosed l[i] || ((decide (0 < l[i].size) && decide (l[i].data.toList.count 10 = 0)) && (l.drop (i + 1)).isEmpty)) && mayL (l.drop (i + 1))) := by
      rw [mayL, open_eq]
    have hnil : ((l.drop (i + 1)).isEmpty = true) ↔ ((i : Int) = (l.length : Int) - 1) := by
      rw [List.isEmpty_iff, List.drop_eq_nil_iff]; omega
    rw [hm]
    obtain ⟨m, hm⟩ : ∃ m, mayL (l.drop (i + 1)) = m := ⟨_, rfl⟩
    obtain ⟨c, hc⟩ : ∃ c, lineClosed l[i] = c := ⟨_, rfl⟩
    rw [hm, hc]
    simp only [Option.bind_some]
    clear hm hln hfd ih hd hc
    by_cases e1 : (i : Int) = (l.length : Int) - 1
    · rw [if_pos e1, if_pos (by omega), hnil.2 e1, Bool.and_true]
      by_cases e2 : 0 < l[i].size
      · rw [if_pos (by omega), decide_eq_true e2, Bool.true_and]
        by_cases e3 : l[i].data.toList.count 10 = 0
        · rw [if_pos (by omega), decide_eq_true e3]
          cases c <;> cases m <;> rfl
        · rw [if_neg (by omega), decide_eq_false e3]
          cases c <;> cases m <;> rfl
      · rw [if_neg (by omega), decide_eq_false e2]
        cases c <;> cases m <;> rfl
    · have : (l.drop (i + 1)).isEmpty = false := by
        cases hh : (l.drop (i + 1)).isEmpty
        · rfl
        · exact absurd (hnil.1 hh) e1
      rw [if_neg e1, if_pos (by omega), this, Bool.and_false]
      cases c <;> cases m <;> rfl
theorem ref_May01 (l : List ByteArray) (hl : l.length ≤ 1000000) (hs : ∀ s ∈ l, s.size ≤ 1000000) : Gives (fun k => sennitref01_May.f k l) (mayL l) :=
  ⟨l.length + 1000000 + 2, fun k hk => by
    have := ref_may_l0 l hl 1000000 (Nat.le_refl _) hs l.length 0 k (by omega) hk
    simpa [sennitref01_May.f] using this⟩

def FewT (result : List ByteArray) (ls : List (List ByteArray)) : Prop := (result.length ≤ 16 ∧ ∀ s ∈ result, s.size ≤ 100) ∧ ls.length ≤ 6 ∧ ∀ l ∈ ls, l.length ≤ 16 ∧ ∀ s ∈ l, s.size ≤ 100
theorem ref_Few20 (result : List ByteArray) (ls : List (List ByteArray)) : ∃ b, Gives (fun k => sennitref20_Few.f k result ls) b ∧ (b = true → FewT result ls) := by
  have he : Gives (fun k => sennitref01_Few.f k result 16) (fewB result 16) := ref_few01 result 16 (by omega)
  have hlast : ∀ i : Nat, (i = ls.length ∨ i = 7) → (∀ l ∈ ls.take i, fewB l 16 = true) → ∃ b, Gives (fun k => sennitref20_Few.j1 k result ls (i : Int) false) b ∧ (b = true → fewB result 16 = true ∧ ls.length ≤ 6 ∧ ∀ l ∈ ls, fewB l 16 = true) := by
    intro i hi hP
    refine ⟨fewB result 16 && decide ((ls.length : Int) ≤ 6), Gives.last he fun k hk => ?_, fun h => ?_⟩
    · show sennitref20_Few.j1 (k + 1) result ls (i : Int) false = _
      rw [sennitref20_Few.j1, if_neg (by decide), hk, Option.bind_some]
      cases fewB result 16 <;> rfl
    · rw [Bool.and_eq_true] at h
      have h6 := of_decide_eq_true h.2
      rw [List.take_of_length_le (by omega)] at hP
      exact ⟨h.1, by omega, hP⟩
  have hmain : ∀ (r i : Nat), i + r = min ls.length 7 → (∀ l ∈ ls.take i, fewB l 16 = true) → ∃ b, Gives (fun k => sennitref20_Few.l0 k result ls (i : Int)) b ∧ (b = true → fewB result 16 = true ∧ ls.length ≤ 6 ∧ ∀ l ∈ ls, fewB l 16 = true) := by
    intro r
    induction r with
    | zero =>
      intro i hi hP
      obtain ⟨b, h1, h2⟩ := hlast i (by omega) hP
      refine ⟨b, h1.step fun k => ?_, h2⟩
      show sennitref20_Few.l0 (k + 1) result ls (i : Int) = _
      rw [sennitref20_Few.l0]
      by_cases h : i < ls.length
      · rw [if_pos (by omega), decide_eq_false (by omega)]
      · rw [if_neg (by omega)]
    | succ r ih =>
      intro i hi hP
      have hil : i < ls.length := by omega
      have e : rd_L1 ls (i : Int) = ls[i] := getN hil
      have hf := ref_few01 ls[i] 16 (by omega)
      have h0 : ∀ b, Gives (fun k => sennitref20_Few.j1 k result ls (i : Int) true) b → Gives (fun k => sennitref20_Few.l0 k result ls (i : Int)) b := fun b hb => hb.step fun k => by
        show sennitref20_Few.l0 (k + 1) result ls (i : Int) = _
        rw [sennitref20_Few.l0, if_pos (by omega), decide_eq_true (by omega)]
      cases hb : fewB ls[i] 16 with
      | true =>
        obtain ⟨b, h1, h2⟩ := ih (i + 1) (by omega) (fun l hl => by
          rw [← List.take_append_getElem hil] at hl
          rcases List.mem_append.1 hl with hl | hl
          · exact hP l hl
          · rw [List.mem_singleton.1 hl]; exact hb)
        refine ⟨b, h0 b (Gives.call hf h1 fun k hk => ?_), h2⟩
        show sennitref20_Few.j1 (k + 1) result ls (i : Int) true = _
        have hk' : sennitref01_Few.f k ls[i] 16 = some true := by rw [← hb]; exact hk
        rw [sennitref20_Few.j1, if_pos rfl, if_pos (by omega), if_pos (by omega), e, hk', Option.bind_some, if_pos rfl, gw1 (by omega)]
      | false =>
        refine ⟨false, h0 false (Gives.last hf fun k hk => ?_), fun h => by cases h⟩
        show sennitref20_Few.j1 (k + 1) result ls (i : Int) true = _
        have hk' : sennitref01_Few.f k ls[i] 16 = some false := by rw [← hb]; exact hk
        rw [sennitref20_Few.j1, if_pos rfl, if_pos (by omega), if_pos (by omega), e, hk', Option.bind_some, if_neg (by decide)]
  obtain ⟨b, h1, h2⟩ := hmain (min ls.length 7) 0 (by omega) (by simp)
  refine ⟨b, h1.same fun k => rfl, fun h => ?_⟩
  obtain ⟨h3, h4, h5⟩ := h2 h
  exact ⟨of_decide_eq_true h3, h4, fun l hl => of_decide_eq_true (h5 l hl)⟩
section
variable {result : List ByteArray} {ls : List (List ByteArray)}
theorem FewT.sum (h : FewT result ls) : sumLen ls ≤ 96 := by
  have := sumLen_take 16 ls ls.length (fun l hl => (h.2.2 l hl).1)
  rw [List.take_length] at this
  have := h.2.1
  omega
theorem FewT.ok (h : FewT result ls) : tableOk result ls = true := by
  obtain ⟨⟨h1, h2⟩, h3, h4⟩ := h
  have h5 : sumLen ls ≤ 96 := FewT.sum ⟨⟨h1, h2⟩, h3, h4⟩
  rw [tableOk, Bool.and_eq_true, Bool.or_eq_true]
  refine ⟨decide_eq_true ⟨by omega, by omega, ?_⟩, .inr (decide_eq_true (by omega))⟩
  intro l hl
  rcases List.mem_cons.1 hl with rfl | hl
  · exact ⟨by omega, fun s hs => by have := h2 s hs; omega⟩
  · have := (h4 l hl).1
    exact ⟨by omega, fun s hs => by have := (h4 l hl).2 s hs; omega⟩
theorem FewT.table (h : FewT result ls) : table_Table.f result ls = some (tableF result ls) := by rw [table_Table.f, if_pos h.ok]

theorem ref_wrong_l0 (h : ∀ l ∈ ls, l.length ≤ 2000 ∧ ∀ s ∈ l, s.size ≤ 1000000) (hn : ls.length ≤ 1000) : ∀ (r i : Nat) (m : Bool), i + r = ls.length → Gives (fun k => sennitref20_wrong.l0 k ls m false (i : Int)) (if (m && (ls.drop i).all mayL) = true then 0 else 2) := by
  intro r
  induction r with
  | zero =>
    intro i m hi
    refine Gives.of fun k => ?_
    show sennitref20_wrong.l0 (k + 1) ls m false (i : Int) = _
    rw [sennitref20_wrong.l0, if_neg (by omega), List.drop_of_length_le (by omega)]
    cases m <;> rfl
  | succ r ih =>
    intro i m hi
    have hil : i < ls.length := by omega
    have e : rd_L1 ls (i : Int) = ls[i] := getN hil
    have hz := h ls[i] (List.getElem_mem _)
    rw [dropCons hil, List.all_cons]
    cases m with
    | true =>
      have hm := ref_May01 ls[i] (by omega) hz.2
      have := ih (i + 1) (mayL ls[i]) (by omega)
      rw [Bool.true_and]
      refine Gives.call hm this fun k hk => ?_
      show sennitref20_wrong.l0 (k + 1) ls true false (i : Int) = _
      rw [sennitref20_wrong.l0, if_pos (by omega), if_pos rfl, if_pos (by omega), e, hk, Option.bind_some, if_neg (by decide), gw1 (by omega), decide_eq_false (by omega)]
    | false =>
      have := ih (i + 1) false (by omega)
      refine (this.eq rfl).step fun k => ?_
      show sennitref20_wrong.l0 (k + 1) ls false false (i : Int) = _
      rw [sennitref20_wrong.l0, if_pos (by omega), if_neg (by decide), if_neg (by decide), if_pos (by omega), e, gw1 (by omega), decide_eq_false (by omega)]
theorem ref_wrong20 (h : FewT result ls) : Gives (fun k => sennitref20_wrong.f k result ls) (wrongF mayL (result :: ls)) := by
  obtain ⟨⟨h1, h2⟩, h3, h4⟩ := h
  by_cases h0 : ls.length = 0
  · have e : wrongF mayL (result :: ls) = 1 := by rw [wrongF, if_pos (by simp; omega)]
    rw [e]
    refine (Gives.of (f := fun k => sennitref20_wrong.j0 k result ls true) fun k => ?_).same fun k => ?_
    · show sennitref20_wrong.j0 (k + 1) result ls true = _
      rw [sennitref20_wrong.j0, if_pos rfl]
    · show sennitref20_wrong.f k result ls = _
      rw [sennitref20_wrong.f, if_pos (by omega)]
  · have hl : (result :: ls).any longL = false := by
      rw [List.any_eq_false]
      intro l hl
      rcases List.mem_cons.1 hl with rfl | hl
      · simp [longL]; omega
      · have := (h4 l hl).1; simp [longL]; omega
    have e : wrongF mayL (result :: ls) = (if (mayL result && (ls.drop 0).all mayL) = true then 0 else 2) := by
      rw [wrongF, if_neg (by simp; omega), hl, if_neg (show ¬ false = true by decide), List.drop_zero]
      by_cases hm : (mayL result && ls.all mayL) = true
      · rw [if_pos hm, if_neg]
        rw [← List.all_cons (f := mayL)] at hm
        simp only [List.any_eq_true, not_exists, not_and]
        intro x hx hc
        rw [List.all_eq_true.1 hm x hx] at hc; cases hc
      · rw [if_neg hm, if_pos]
        rw [← List.all_cons (f := mayL), List.all_eq_true] at hm
        rw [List.any_eq_true]
        apply Classical.byContradiction
        intro hc
        apply hm
        intro x hx
        cases hmx : mayL x with
        | true => rfl
        | false => exact absurd ⟨x, hx, by rw [hmx]; rfl⟩ hc
    rw [e]
    have hm := ref_May01 result (by omega) (fun s hs => by have := h2 s hs; omega)
    have hw := ref_wrong_l0 (ls := ls) (fun l hl => ⟨by have := (h4 l hl).1; omega, fun s hs => by have := (h4 l hl).2 s hs; omega⟩) (by omega) ls.length 0 (mayL result) (by omega)
    refine (Gives.call hm hw (f := fun k => sennitref20_wrong.j0 k result ls false) fun k hk => ?_).same fun k => ?_
    · show sennitref20_wrong.j0 (k + 1) result ls false = _
      rw [sennitref20_wrong.j0, if_neg (by decide), hk, Option.bind_some, decide_eq_false (by omega)]; rfl
    · show sennitref20_wrong.f k result ls = _
      rw [sennitref20_wrong.f, if_neg (by omega), decide_eq_false (by omega)]
end
section
variable {result : List ByteArray} {ls : List (List ByteArray)}
theorem segRows_len (result : List ByteArray) (ls : List (List ByteArray)) (q : Nat) : (segRows result ls q).length ≤ sumLen ls := by
  rw [segRows, List.length_map]
  refine Nat.le_trans (rowsOf_le _) ?_
  rw [segsL, sumLen, sumLen, List.map_map]
  induction ls with
  | nil => simp
  | cons p t ih =>
    simp only [List.map_cons, List.sum_cons, Function.comp_apply]
    have := segL_length_le p (matchS result p) q
    have := ih
    simp only [Function.comp_def] at this ⊢
    omega
theorem tableRows_len (result : List ByteArray) (ls : List (List ByteArray)) : ∀ q, q ≤ result.length → (tableRows result ls q).length ≤ q * (sumLen ls + 1)
  | 0, _ => by simp [tableRows]
  | q + 1, h => by
    have := tableRows_len result ls q (by omega)
    have h2 := segRows_len result ls q
    rw [tableRows_succ _ _ _ h, List.length_append, List.length_append, List.length_singleton, Nat.succ_mul]
    omega
theorem FewT.rows (h : FewT result ls) {q : Nat} (hq : q ≤ result.length) : (tableRows result ls q).length ≤ 2000 := by
  have h1 := tableRows_len result ls q hq
  have h2 := h.sum
  have h3 := h.1.1
  have : q * (sumLen ls + 1) ≤ 16 * 97 := Nat.mul_le_mul (by omega) (by omega)
  omega
theorem FewT.all (h : FewT result ls) : (tableAll result ls).length ≤ 3000 := by
  rw [tableAll_eq, List.length_append]
  have := h.rows (Nat.le_refl _)
  have := segRows_len result ls result.length
  have := h.sum
  omega
end
end Go.Proofs.Ytnlekganlliikaa.X
-- part XTabCols
namespace Go.Proofs.Ytnlekganlliikaa.X
open Go.RowKit Go.Proofs.YtnlekganlliikaaW.PrintWords Go.Proofs.YtnlekganlliikaaW.PrintLast Go.Proofs.YtnlekganlliikaaW.PrintMore
set_option linter.unusedVariables false
set_option linter.unusedSimpArgs false
theorem byte32 (c : UInt8) : ((c.toNat : Int) = 32) ↔ c = 32 := by
  constructor
  · intro h
    have : c.toNat = 32 := by omega
    exact UInt8.toNat_inj.1 this
  · rintro rfl; rfl
theorem ofB_nat (c : Nat) (s : ByteArray) : ofB (c : Int) s = ((s.data.toList[c]? == some 45) || ((s.data.toList[c]? == some 32) && !lostB s)) := by
  have hs := sizeLen s
  rw [ofB, decide_eq_true (show (0 : Int) ≤ (c : Int) by omega), Bool.true_and]
  by_cases h : c < s.size
  · have hc : c < s.data.toList.length := by omega
    rw [decide_eq_true (show (c : Int) < (s.size : Int) by omega), Bool.true_and, btN h, List.getElem?_eq_getElem hc]
    have e1 : decide (((s.data.toList[c].toNat : Nat) : Int) = 45) = (some s.data.toList[c] == some 45) := by
      rw [Bool.eq_iff_iff, decide_eq_true_eq, byte45]; simp
    have e2 : decide (((s.data.toList[c].toNat : Nat) : Int) = 32) = (some s.data.toList[c] == some 32) := by
      rw [Bool.eq_iff_iff, decide_eq_true_eq, byte32]; simp
    rw [e1, e2]
  · rw [decide_eq_false (show ¬ (c : Int) < (s.size : Int) by omega), List.getElem?_eq_none (by omega)]; rfl
def colF (c : Nat) (R : List ApiRow) : List ByteArray := (R.filter (fun x => ofB (c : Int) x.f0)).map (·.f1)
def resF (R : List ApiRow) : List ByteArray := (R.filter (fun x => !lostB x.f0)).map (·.f1)
theorem colF_append (c : Nat) (a b : List ApiRow) : colF c (a ++ b) = colF c a ++ colF c b := by simp [colF]
theorem resF_append (a b : List ApiRow) : resF (a ++ b) = resF a ++ resF b := by simp [resF]
section
variable {result : List ByteArray} {ls : List (List ByteArray)}
theorem seg_row (hn : ls.length ≤ 16) (q : Nat) : ∀ x ∈ segRows result ls q, x.f0.size = ls.length ∧ (∀ c ∈ x.f0.data.toList, c = 45 ∨ c = 32) ∧ 45 ∈ x.f0.data.toList := by
  have h := rowsOf_cols (segsL result ls q) (by rw [segsL_length]; exact hn)
  rw [segsL_length] at h
  exact rowOut_ok hn h
theorem seg_lost (hn : ls.length ≤ 16) (q : Nat) : ∀ x ∈ segRows result ls q, lostB x.f0 = true := fun x hx => by
  rw [lostB_mem]; exact decide_eq_true (seg_row hn q x hx).2.2
theorem line_mem (q : Nat) : ∀ c ∈ marksU result ls q, c = 32 ∨ c = 43 := by
  intro c hc
  obtain ⟨p, _, rfl⟩ := List.mem_map.1 hc
  split
  · exact .inl rfl
  · exact .inr rfl
theorem line_lost (q : Nat) : lostB (bs (marksU result ls q)) = false := by
  rw [lostB_mem]
  refine decide_eq_false fun h => ?_
  rcases line_mem q 45 (by simpa [bs] using h) with h | h <;> cases h
theorem colF_seg (hn : ls.length ≤ 16) {c : Nat} (hc : c < ls.length) (q : Nat) : colF c (segRows result ls q) = segL ls[c] (matchS result ls[c]) q := by
  have h := rowsOf_cols (segsL result ls q) (by rw [segsL_length]; exact hn)
  rw [segsL_length] at h
  have h1 := column_colT hn hc _ h
  rw [rowsOf_colT _ (by rw [segsL_length]; exact hn) c (by rw [segsL_length]; exact hc)] at h1
  have hg : (segsL result ls q).getD c [] = segL ls[c] (matchS result ls[c]) q := by simp [segsL, hc]
  rw [hg] at h1
  rw [← h1, colF]
  congr 1
  refine List.filter_congr fun x hx => ?_
  rw [ofB_nat, seg_lost hn q x hx]; simp
theorem resF_seg (hn : ls.length ≤ 16) (q : Nat) : resF (segRows result ls q) = [] := by
  rw [resF, List.filter_eq_nil_iff.2 (fun x hx => by rw [seg_lost hn q x hx]; decide)]; rfl
theorem resF_line (q : Nat) (s : ByteArray) : resF [⟨bs (marksU result ls q), s⟩] = [s] := by
  rw [resF, List.filter_cons_of_pos (by show (!lostB (bs (marksU result ls q))) = true; rw [line_lost]; rfl)]; rfl
theorem colF_line {c : Nat} (hc : c < ls.length) (q : Nat) (s : ByteArray) : colF c [⟨bs (marksU result ls q), s⟩] = if 0 ≤ (matchS result ls[c]).getD q 0 then [s] else [] := by
  have hg : (bs (marksU result ls q)).data.toList[c]? = some (if 0 ≤ (matchS result ls[c]).getD q 0 then 32 else 43) := by
    show (marksU result ls q).toArray.toList[c]? = _
    rw [marksU, List.toList_toArray, List.getElem?_map, List.getElem?_eq_getElem hc]; rfl
  have ho : ofB (c : Int) (bs (marksU result ls q)) = decide (0 ≤ (matchS result ls[c]).getD q 0) := by
    rw [ofB_nat, hg, line_lost]
    split
    · rename_i h; rw [decide_eq_true h]; rfl
    · rename_i h; rw [decide_eq_false h]; rfl
  by_cases h : 0 ≤ (matchS result ls[c]).getD q 0
  · rw [if_pos h, colF, List.filter_cons_of_pos (by show ofB (c : Int) (bs (marksU result ls q)) = true; rw [ho]; exact decide_eq_true h)]; rfl
  · rw [if_neg h, colF, List.filter_cons_of_neg (by show ¬ ofB (c : Int) (bs (marksU result ls q)) = true; rw [ho]; simpa using h)]; rfl
/-- How much of the parent has come ahead of a line. -/
def posM (ms : List Int) (L q : Nat) : Nat := match fromM ms q with | some a => a | none => nextM (ms.drop q) L
theorem pos_seg {p ss : List ByteArray} {ms : List Int} (hF : Fits p ms ss 0) (q : Nat) : p.take (posM ms p.length q) ++ segL p ms q = p.take (nextM (ms.drop q) p.length) := by
  rw [posM, segL]
  cases h : fromM ms q with
  | none => simp
  | some a =>
    have := hF.from_le h
    show p.take a ++ (p.take (nextM (ms.drop q) p.length)).drop a = _
    have e : p.take a = (p.take (nextM (ms.drop q) p.length)).take a := by rw [List.take_take, Nat.min_eq_left this]
    rw [e, List.take_append_drop]
theorem pos_line {p ss : List ByteArray} {ms : List Int} (hF : Fits p ms ss 0) {q : Nat} (hq : q < ms.length) (hs : q < ss.length) : p.take (nextM (ms.drop q) p.length) ++ (if 0 ≤ ms.getD q 0 then [ss[q]] else []) = p.take (posM ms p.length (q + 1)) := by
  have hg : ms.getD q (-1) = ms[q] := by rw [List.getD_eq_getElem?_getD, List.getElem?_eq_getElem hq]; rfl
  have hg0 : ms.getD q 0 = ms[q] := by rw [List.getD_eq_getElem?_getD, List.getElem?_eq_getElem hq]; rfl
  have hd : ms.drop q = ms[q] :: ms.drop (q + 1) := dropCons hq
  rcases hF.at_ q hq with h | ⟨k, h, h1, h2, h3⟩
  · have hn : fromM ms (q + 1) = none := by rw [fromM, h, if_neg (by decide)]
    rw [hg] at h
    rw [hg0, h, if_neg (by decide), List.append_nil, posM, hn, hd, h, nextM, if_neg (by decide)]
  · have hn : fromM ms (q + 1) = some (k + 1) := by rw [fromM, h, if_pos (by omega), Int.toNat_natCast]
    rw [hg] at h
    rw [hg0, h, if_pos (by omega), posM, hn, hd, h, nextM, if_pos (by omega), Int.toNat_natCast]
    rw [List.getElem?_eq_getElem hs, List.getElem?_eq_getElem h2] at h1
    rw [← Option.some.inj h1]
    exact List.take_append_getElem h2
theorem colF_rows (hn : ls.length ≤ 16) {c : Nat} (hc : c < ls.length) : ∀ q, q ≤ result.length → colF c (tableRows result ls q) = ls[c].take (posM (matchS result ls[c]) ls[c].length q)
  | 0, _ => by
    have : posM (matchS result ls[c]) ls[c].length 0 = 0 := rfl
    rw [this, List.take_zero]; rfl
  | q + 1, h => by
    rw [tableRows_succ _ _ _ h, colF_append, colF_append, colF_rows hn hc q (by omega), colF_seg hn hc, colF_line hc, pos_seg (matchS_fits result ls[c])]
    exact pos_line (matchS_fits result ls[c]) (by rw [matchS_length]; exact h) h
theorem colF_all (hn : ls.length ≤ 16) {c : Nat} (hc : c < ls.length) : colF c (tableAll result ls) = ls[c] := by
  rw [tableAll_eq, colF_append, colF_rows hn hc _ (Nat.le_refl _), colF_seg hn hc, pos_seg (matchS_fits result ls[c]), List.drop_of_length_le (by rw [matchS_length]; exact Nat.le_refl _)]
  exact List.take_length
theorem resF_rows (hn : ls.length ≤ 16) : ∀ q, q ≤ result.length → resF (tableRows result ls q) = result.take q
  | 0, _ => rfl
  | q + 1, h => by
    rw [tableRows_succ _ _ _ h, resF_append, resF_append, resF_rows hn q (by omega), resF_seg hn, resF_line, List.append_nil]
    exact List.take_append_getElem h
theorem resF_all (hn : ls.length ≤ 16) : resF (tableAll result ls) = result := by
  rw [tableAll_eq, resF_append, resF_rows hn _ (Nat.le_refl _), resF_seg hn, List.append_nil, List.take_length]
theorem rows_size (hn : ls.length ≤ 16) : ∀ q, q ≤ result.length → ∀ x ∈ tableRows result ls q, x.f0.size = ls.length
  | 0, _, x, hx => by cases hx
  | q + 1, h, x, hx => by
    rw [tableRows_succ _ _ _ h] at hx
    rcases List.mem_append.1 hx with hx | hx
    · rcases List.mem_append.1 hx with hx | hx
      · exact rows_size hn q (by omega) x hx
      · exact (seg_row hn q x hx).1
    · rw [List.mem_singleton.1 hx]
      show (bs (marksU result ls q)).size = _
      rw [bs_size, marksU, List.length_map]
theorem all_size (hn : ls.length ≤ 16) : ∀ x ∈ tableAll result ls, x.f0.size = ls.length := by
  intro x hx
  rw [tableAll_eq] at hx
  rcases List.mem_append.1 hx with hx | hx
  · exact rows_size hn _ (Nat.le_refl _) x hx
  · exact (seg_row hn _ x hx).1
theorem ref_May20 (result : List ByteArray) (ls : List (List ByteArray)) : ∃ b, Gives (fun k => sennitref20_May.f k result ls) b ∧ (b = true → FewT result ls ∧ wrongF mayL (result :: ls) = 0) := by
  obtain ⟨b, h1, h2⟩ := ref_Few20 result ls
  cases b with
  | false =>
    refine ⟨false, Gives.last0 h1 fun k hk => ?_, fun h => by cases h⟩
    show sennitref20_May.f k result ls = _
    rw [sennitref20_May.f, hk, Option.bind_some, if_neg (by decide)]
  | true =>
    have hF := h2 rfl
    refine ⟨wrongF mayL (result :: ls) == 0, Gives.call0 h1 (Gives.last0 (ref_wrong20 hF) (f := fun k => (sennitref20_wrong.f k result ls).bind fun t => some (t == 0)) fun k hk => ?_) fun k hk => ?_, fun h => ⟨hF, by simpa using h⟩⟩
    · show Option.bind _ _ = _
      rw [hk, Option.bind_some]
    · show sennitref20_May.f k result ls = _
      rw [sennitref20_May.f, hk, Option.bind_some, if_pos rfl]
theorem cols20_l0 (h : FewT result ls) : ∀ (r i : Nat), i + r = ls.length → Gives (fun k => sennitlaw20_TableColumns.l0 k result ls true (tableAll result ls) 0 (i : Int)) true := by
  have h6 := h.2.1
  have h16 := h.1.1
  have hR := h.all
  have hz : ∀ x ∈ tableAll result ls, x.f0.size ≤ 1000000000 := fun x hx => by have := all_size (by omega) x hx; omega
  intro r
  induction r with
  | zero =>
    intro i hi
    have hc := res_f (R := tableAll result ls) (by omega) hz
    rw [show ((tableAll result ls).filter (fun x => !lostB x.f0)).map (·.f1) = result from resF_all (by omega)] at hc
    have hs := (ref_same01 result result (by omega)).eq (decide_eq_true rfl)
    refine Gives.last hs fun k hk => ?_
    show sennitlaw20_TableColumns.l0 (k + 1) result ls true _ 0 (i : Int) = _
    rw [sennitlaw20_TableColumns.l0, if_neg (by omega), if_pos rfl, if_pos rfl, hc, Option.bind_some, hk, Option.bind_some]
  | succ r ih =>
    intro i hi
    have hil : i < ls.length := by omega
    have e : rd_L1 ls (i : Int) = ls[i] := getN hil
    have hc := col_f (R := tableAll result ls) (i : Int) (by omega) hz
    rw [show ((tableAll result ls).filter (fun x => ofB (i : Int) x.f0)).map (·.f1) = ls[i] from colF_all (by omega) hil] at hc
    have hp := h.2.2 ls[i] (List.getElem_mem _)
    have hs := (ref_same01 ls[i] ls[i] (by omega)).eq (decide_eq_true rfl)
    refine Gives.call hs (ih (i + 1) (by omega)) fun k hk => ?_
    show sennitlaw20_TableColumns.l0 (k + 1) result ls true _ 0 (i : Int) = _
    rw [sennitlaw20_TableColumns.l0, if_pos (by omega), hc, Option.bind_some, if_pos (by omega), e, hk, Option.bind_some, if_pos rfl, gw1 (by omega)]
end
theorem columns20 (result : List ByteArray) (ls : List (List ByteArray)) : Gives (fun k => sennitlaw20_TableColumns.f k result ls) true := by
  obtain ⟨b, h1, h2⟩ := ref_May20 result ls
  cases b with
  | false =>
    refine Gives.last0 h1 fun k hk => ?_
    show sennitlaw20_TableColumns.f k result ls = _
    rw [sennitlaw20_TableColumns.f, awake20, Option.bind_some, hk, Option.bind_some, if_neg (by decide)]
  | true =>
    obtain ⟨h, hw⟩ := h2 rfl
    refine Gives.call0 h1 (cols20_l0 h ls.length 0 (by omega)) fun k hk => ?_
    show sennitlaw20_TableColumns.f k result ls = _
    rw [sennitlaw20_TableColumns.f, awake20, Option.bind_some, hk, Option.bind_some, if_pos rfl, h.table, Option.bind_some, tableF, if_neg (by simpa using hw)]; rfl
theorem law_TableColumns (W : World) (A0 : Option Addr) (c0 : Nat) (l0 : List ByteArray) (hr0 : Kd.C Kd.string W A0 l0.length l0) (hc0 : l0.length ≤ c0) (g0 : l0.length * 16 ≤ 140737488351232 ∧ ∀ y ∈ l0, y.size ≤ 140737488351232) (A1 : Option Addr) (c1 : Nat) (l1 : List (List ByteArray)) (hr1 : Kd.C (Kd.slice 9 Kd.string) W A1 l1.length l1) (hc1 : l1.length ≤ c1) (g1 : l1.length * 24 ≤ 140737488351232 ∧ ∀ y ∈ l1, y.length * 16 ≤ 140737488351232 ∧ ∀ yy ∈ y, yy.size ≤ 140737488351232) :
    Calls Try.prog 10 #[.slice A0 l0.length c0, .slice A1 l1.length c1] W fun e w' => e = .returned (.bool true) ∧ Below W.heap.size W w' := by
  obtain ⟨k, hk⟩ := columns20 l0 l1
  exact sennitlaw20_TableColumns.calls k A0 c0 l0 A1 c1 l1 true W hr0 hc0 hr1 hc1 (hk k (Nat.le_refl _))
end Go.Proofs.Ytnlekganlliikaa.X
