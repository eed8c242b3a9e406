/-
  What the printed functions of chapter 01 tell, more: plain Lean.
-/
import Derived.Test.YtkakcefekabmhaaXLines8
namespace Go.Proofs.Ytkakcefekabmhaa.X
open Go.RowKit Go.Proofs.YtkakcefekabmhaaW.PrintWords Go.Proofs.YtkakcefekabmhaaW.PrintLast Go.Proofs.YtkakcefekabmhaaW.PrintMore
set_option linter.unusedVariables false
set_option linter.unusedSimpArgs false

theorem mayT_cons (s : ByteArray) (l : List ByteArray) : mayT (s :: l) = ((closedU s.data.toList || ((decide (0 < s.size) && decide (s.data.toList.count 10 = 0)) && decide (l = []))) && mayT l) := by
  simp only [mayT, us, List.map_cons, mayU_snoc, open_iff, ← size_len, List.map_eq_nil_iff]
theorem closed_no {u : List UInt8} (h : u.count 10 = 0) : closedU u = false := by
  rw [closed_iff, h]; rfl
theorem maylines_l0 (l : List ByteArray) (hl : l.length ≤ 1000000000) (hs : ∀ s ∈ l, s.size ≤ 1000000000) : ∀ (r i k : Nat), i + r = l.length → r + 1 ≤ k → lines_May.l0 k l l (l.length : Int) (i : Int) = some (mayT (l.drop i))
  | 0, i, k + 1, hi, _ => by
    rw [lines_May.l0, if_neg (by omega), List.drop_of_length_le (by omega)]
    rfl
  | r + 1, i, k + 1, hi, hk => by
    have hd : l.drop i = l[i] :: l.drop (i + 1) := List.drop_eq_getElem_cons (by omega)
    have hz : l[i].size ≤ 1000000000 := hs _ (List.getElem_mem _)
    have ih := maylines_l0 l hl hs r (i + 1) k (by omega) (by omega)
    rw [show ((i + 1 : Nat) : Int) = (i : Int) + 1 from by omega] at ih
    have hnil : (l.drop (i + 1) = []) ↔ ((i : Int) = (l.length : Int) - 1) := by
      rw [List.drop_eq_nil_iff]; omega
    rw [lines_May.l0, if_pos (by omega), if_pos (by omega), if_pos (by omega), rdOf_get (by omega), w64' (x := (i : Int) + 1) (by omega) (by omega), w64' (x := (l.length : Int) - 1) (by omega) (by omega), w64' (x := (l[i].size : Int) - 1) (by omega) (by omega), ih, hd, mayT_cons, strings_Index.f, if_pos rfl, Option.bind_some]
    by_cases h1 : Lib.indexByte l[i].data.toList 10 < 0
    · have hc := (index_no _).1 h1
      rw [if_pos h1, closed_no hc, decide_eq_true hc, Bool.false_or, Bool.and_true]
      by_cases h2 : 0 < l[i].size
      · rw [if_pos (by omega), decide_eq_true h2, Bool.true_and]
        by_cases h3 : (i : Int) = (l.length : Int) - 1
        · rw [if_pos h3, decide_eq_true (hnil.2 h3), Bool.true_and]
        · rw [if_neg h3, decide_eq_false (fun h => h3 (hnil.1 h))]; rfl
      · rw [if_neg (by omega), decide_eq_false h2]; rfl
    · have hc : ¬ l[i].data.toList.count 10 = 0 := fun h => h1 ((index_no _).2 h)
      rw [if_neg h1, decide_eq_false hc, Bool.and_false, Bool.false_and, Bool.or_false]
      by_cases h2 : closedU l[i].data.toList = true
      · rw [if_pos (by rw [size_len]; exact (index_last _ (by omega)).2 h2), h2, Bool.true_and]
      · rw [if_neg (fun h => h2 ((index_last _ (by omega)).1 (by rw [← size_len]; exact h))), Bool.eq_false_iff.2 h2]; rfl
theorem maylines (l : List ByteArray) (hl : l.length ≤ 1000000000) (hs : ∀ s ∈ l, s.size ≤ 1000000000) : Ev (fun k => lines_May.f k l) (mayT l) :=
  ⟨l.length + 1, fun k hk => by
    have := maylines_l0 l hl hs l.length 0 k (by omega) hk
    simpa [lines_May.f] using this⟩

theorem openT_snoc (l : List ByteArray) (h : 0 < l.length) : openT l = decide (¬ (l[l.length - 1]).data.toList.getLast? = some 10) := by
  have : (us l).getLast? = some (l[l.length - 1]).data.toList := by
    rw [us, List.getLast?_map, List.getLast?_eq_getElem?, List.getElem?_eq_getElem (by omega)]; rfl
  rw [openT, lastOpen, this]
theorem suffix_one (u : List UInt8) : Lib.hasSuffix u [10] = decide (u.getLast? = some 10) := by
  rw [Bool.eq_iff_iff]
  simp only [Lib.hasSuffix, List.isSuffixOf_iff_suffix, decide_eq_true_eq]
  constructor
  · rintro ⟨t, rfl⟩; simp
  · intro h
    obtain ⟨ys, rfl⟩ := List.getLast?_eq_some_iff.1 h
    exact ⟨ys, rfl⟩
theorem openlines (l : List ByteArray) (hl : l.length ≤ 1000000000) (hs : ∀ s ∈ l, s.size ≤ 1000000000) : lines_Open.f l = some (openT l) := by
  rw [lines_Open.f]
  by_cases h : 0 < l.length
  · have ew : wrap64 ((l.length : Int) - 1) = ((l.length - 1 : Nat) : Int) := by rw [w64' (by omega) (by omega)]; omega
    have hz := hs _ (List.getElem_mem (show l.length - 1 < l.length by omega))
    rw [if_pos (by omega), ew, if_pos (by omega), if_pos (by omega), rdOf_get (by omega), strings_HasSuffix.f, if_pos (by omega), Option.bind_some, show (⟨#[10]⟩ : ByteArray).data.toList = [10] from rfl, suffix_one, openT_snoc l h]
    simp
  · have : l = [] := List.length_eq_zero_iff.1 (by omega)
    subst this
    rfl
theorem openref (l : List ByteArray) (hl : l.length ≤ 1000000000) (hs : ∀ s ∈ l, s.size ≤ 1000000000) : sennitref01_Open.f l = some (openT l) := by
  rw [sennitref01_Open.f]
  by_cases h : 0 < l.length
  · have ew : wrap64 ((l.length : Int) - 1) = ((l.length - 1 : Nat) : Int) := by rw [w64' (by omega) (by omega)]; omega
    have hz := hs _ (List.getElem_mem (show l.length - 1 < l.length by omega))
    rw [if_neg (by omega), ew, if_pos (by omega), if_pos (by omega), rdOf_get (by omega), openT_snoc l h]
    obtain ⟨s, hse⟩ : ∃ s, l[l.length - 1] = s := ⟨_, rfl⟩
    rw [hse] at hz ⊢
    by_cases h2 : s.size = 0
    · have : s.data.toList = [] := List.length_eq_zero_iff.1 (by rw [← size_len]; exact h2)
      rw [if_pos (by omega), this]; rfl
    · have ew2 : wrap64 ((s.size : Int) - 1) = ((s.size - 1 : Nat) : Int) := by rw [w64' (by omega) (by omega)]; omega
      rw [if_neg (by omega), ew2, if_pos (by omega), if_pos (by omega), bt_get (by omega), getLast_idx s (by omega)]
      congr 1
      rw [Bool.eq_iff_iff]
      simp only [bne_iff_ne, ne_eq, decide_eq_true_eq, Option.some.injEq, byte_ten]
  · have : l = [] := List.length_eq_zero_iff.1 (by omega)
    subst this
    rfl

theorem split01_l0 (b : List Int) (hb : b.length ≤ 1000000) (h8 : ∀ y ∈ b, 0 ≤ y ∧ y < 256) : ∀ (r i at_ k : Nat) (out : List ByteArray), i + r = b.length → at_ ≤ i → out.length ≤ i → ¬ (10 : UInt8) ∈ Lib.bytesOf ((b.take i).drop at_) → r + 1 ≤ k →
    sennitref01_Split.l0 k b out (at_ : Int) (i : Int) = some (out ++ linesT (b.drop at_))
  | 0, i, at_, k + 1, out, hi, ha, ho, hn, _ => by
    have hi' : i = b.length := by omega
    subst hi'
    rw [List.take_length] at hn
    rw [sennitref01_Split.l0, if_neg (by omega)]
    by_cases h : at_ < b.length
    · rw [if_pos (by omega), if_pos (by omega), if_pos (by omega), if_pos (by omega), Int.toNat_natCast]
      have hne : b.drop at_ ≠ [] := by rw [Ne, List.drop_eq_nil_iff]; omega
      rw [linesT_cons hne, cutU_no hn, bytesOf_length, List.take_length, List.drop_length, linesT_nil]
    · rw [if_neg (by omega), List.drop_of_length_le (by omega), linesT_nil, List.append_nil]
  | r + 1, i, at_, k + 1, out, hi, ha, ho, hn, hk => by
    have e1 : wrap64 ((i : Int) + 1) = ((i + 1 : Nat) : Int) := by rw [w64' (by omega) (by omega)]; omega
    have hlt : i < b.length := by omega
    have h0 := h8 _ (List.getElem_mem hlt)
    have hsn : (b.take (i + 1)).drop at_ = (b.take i).drop at_ ++ [b[i]] := by
      rw [← List.take_append_getElem hlt, List.drop_append_of_le_length (by rw [List.length_take]; omega)]
    have hbn : Lib.bytesOf ((b.take (i + 1)).drop at_) = Lib.bytesOf ((b.take i).drop at_) ++ Lib.bytesOf [b[i]] := by rw [hsn]; simp [Lib.bytesOf]
    have hby : (b[i] = 10) ↔ Lib.bytesOf [b[i]] = [10] := by
      simp only [Lib.bytesOf, List.map_cons, List.map_nil, List.cons.injEq, and_true]
      constructor
      · intro e; rw [e]; rfl
      · intro e
        have := congrArg UInt8.toNat e
        simp at this
        omega
    rw [sennitref01_Split.l0, if_pos (by omega), if_pos (by omega), rd_get' hlt, e1]
    by_cases e : b[i] = 10
    · have hne : b.drop at_ ≠ [] := by rw [Ne, List.drop_eq_nil_iff]; omega
      have hcut : cutU (Lib.bytesOf (b.drop at_)) = i + 1 - at_ := by
        have hsp : b.drop at_ = (b.take (i + 1)).drop at_ ++ b.drop (i + 1) := by
          conv => lhs; rw [← List.take_append_drop (i + 1) b]
          rw [List.drop_append_of_le_length (by rw [List.length_take]; omega)]
        have hbs : Lib.bytesOf (b.drop at_) = Lib.bytesOf ((b.take i).drop at_) ++ ([10] ++ Lib.bytesOf (b.drop (i + 1))) := by
          rw [hsp, show Lib.bytesOf ((b.take (i + 1)).drop at_ ++ b.drop (i + 1)) = Lib.bytesOf ((b.take (i + 1)).drop at_) ++ Lib.bytesOf (b.drop (i + 1)) by simp [Lib.bytesOf], hbn, hby.1 e, List.append_assoc]
        rw [hbs, cutU_append, if_neg hn, bytesOf_length, List.length_drop, List.length_take]
        simp [cutU]
        omega
      rw [if_pos e, if_pos (by omega), if_pos (by omega), if_pos (by omega), if_pos (by omega), Int.toNat_natCast, Int.toNat_natCast]
      rw [split01_l0 b hb h8 r (i + 1) (i + 1) k _ (by omega) (Nat.le_refl _) (by simp; omega) (by rw [List.drop_of_length_le (by rw [List.length_take]; omega)]; simp [Lib.bytesOf]) (by omega)]
      rw [linesT_cons hne, hcut, List.append_assoc]
      congr 3
      · rw [List.drop_take]
        simp
        rw [show at_ + (i + 1 - at_) = i + 1 by omega]
    · rw [if_neg e]
      exact split01_l0 b hb h8 r (i + 1) at_ k out (by omega) (by omega) (by omega) (by
        rw [hbn, List.mem_append]
        rintro (h | h)
        · exact hn h
        · apply e; rw [hby]
          simp only [Lib.bytesOf, List.map_cons, List.map_nil, List.mem_singleton] at h ⊢
          rw [← h]) (by omega)
theorem split01 (b : List Int) (hb : b.length ≤ 1000000) (h8 : ∀ y ∈ b, 0 ≤ y ∧ y < 256) : Ev (fun k => sennitref01_Split.f k b) (linesT b) :=
  ⟨b.length + 1, fun k hk => by
    have := split01_l0 b hb h8 b.length 0 0 k [] (by omega) (Nat.le_refl _) (Nat.le_refl _) (by simp [Lib.bytesOf]) hk
    simpa [sennitref01_Split.f] using this⟩
end Go.Proofs.Ytkakcefekabmhaa.X
