/-
  sennitlaw01.LinesJoins: what the printed law tells.
-/
import Derived.Test.YtkakcefekabmhaaXLinesA
namespace Go.Proofs.Ytkakcefekabmhaa.X
open Go.RowKit Go.Proofs.YtkakcefekabmhaaW.PrintWords Go.Proofs.YtkakcefekabmhaaW.PrintLast Go.Proofs.YtkakcefekabmhaaW.PrintMore
set_option linter.unusedVariables false
set_option linter.unusedSimpArgs false

theorem bytesOf_append (a b : List Int) : Lib.bytesOf (a ++ b) = Lib.bytesOf a ++ Lib.bytesOf b := by simp [Lib.bytesOf]
theorem linesT_closed {a : List Int} (b : List Int) (h : openT (linesT a) = false) : linesT (a ++ b) = linesT a ++ linesT b := by
  rw [openT_lines] at h
  simp only [linesT, bytesOf_append, lines_append_closed _ h, List.map_append]
theorem linesT_open {a : List Int} (b : List Int) (h : openT (linesT a) = true) : linesU (Lib.bytesOf (a ++ b)) = glue (linesU (Lib.bytesOf a)) (linesU (Lib.bytesOf b)) := by
  rw [openT_lines] at h
  rw [bytesOf_append, lines_append_open _ h]
theorem txt_append (u v : List UInt8) : txt (u ++ v) = txt u ++ txt v := by
  apply ByteArray.ext
  simp [txt]
theorem openT_ne {l : List ByteArray} (h : openT l = true) : 0 < l.length := by
  rcases Nat.eq_zero_or_pos l.length with e | e
  · rw [List.length_eq_zero_iff.1 e] at h; cases h
  · exact e
/-- glue, as the law does it. -/
theorem glue_set {k l : List ByteArray} (hk : 0 < k.length) (hl : 0 < l.length) : (glue (us k) (us l)).map txt = k.set (k.length - 1) (k[k.length - 1] ++ l[0]) ++ l.drop 1 := by
  obtain ⟨y, ys, rfl⟩ : ∃ y ys, l = y :: ys := by
    cases l with
    | nil => simp at hl
    | cons y ys => exact ⟨y, ys, rfl⟩
  obtain ⟨a, b, rfl⟩ : ∃ a b, k = a ++ [b] := ⟨k.dropLast, k.getLast (List.length_pos_iff.1 hk), (List.dropLast_concat_getLast _).symm⟩
  have e1 : (us (a ++ [b])).dropLast = us a := by simp [us]
  have e2 : (us (a ++ [b])).getLast?.getD [] = b.data.toList := by simp [us]
  have e3 : (a ++ [b]).length - 1 = a.length := by simp
  have e4 : (us a).map txt = a := by simp [us, Function.comp_def, txt_toList]
  have e5 : (us ys).map txt = ys := by simp [us, Function.comp_def, txt_toList]
  simp only [e3]
  rw [show us (y :: ys) = y.data.toList :: us ys from rfl, glue, e1, e2]
  simp only [List.map_append, List.map_cons, txt_append, txt_toList, e4, e5]
  rw [List.set_append_right _ _ (Nat.le_refl _)]
  simp
theorem lines_joins {a b : List Int} (h : openT (linesT a) = true) (hb : 0 < (linesT b).length) : linesT (a ++ b) = (linesT a).set ((linesT a).length - 1) ((linesT a)[(linesT a).length - 1]'(by have := openT_ne h; omega) ++ (linesT b)[0]) ++ (linesT b).drop 1 := by
  rw [← glue_set (openT_ne h) hb, us_lines, us_lines, ← linesT_open b h]
  rfl

theorem law_LinesJoins_f (a b : List Int) : ∃ k, sennitlaw01_LinesJoins.f k a b = some true := by
  by_cases hl : a.length ≤ 300 ∧ b.length ≤ 300
  · obtain ⟨hla, hlb⟩ := hl
    have hna := linesT_len a
    have hnb := linesT_len b
    have hnab := linesT_len (a ++ b)
    rw [List.length_append] at hnab
    obtain ⟨K, hK⟩ := same01 (linesT (a ++ b)) (linesT (a ++ b)) (by omega)
    have hK : ∀ k, K ≤ k → sennitref01_Same.f k (linesT (a ++ b)) (linesT (a ++ b)) = some true := fun k hk => by have := hK k hk; rwa [decide_eq_true rfl] at this
    have h3 := openlines (linesT a) (by omega) (fun s hs => by have := linesT_mem hs; omega)
    refine ⟨K + 3, ?_⟩
    rw [sennitlaw01_LinesJoins.f, awake01.f, Option.bind_some, if_neg (by omega), decide_eq_false (by omega), sennitlaw01_LinesJoins.j0, if_neg (by decide), split_f (by omega), Option.bind_some, split_f (by omega), Option.bind_some, Option.bind_some, List.nil_append, if_pos (by simp only [List.length_nil]; omega), Option.bind_some, if_pos (by omega), split_f (by rw [List.length_append]; omega), Option.bind_some, h3, Option.bind_some]
    by_cases ho : openT (linesT a) = true
    · rw [if_pos ho]
      have hpa := openT_ne ho
      by_cases hb : 0 < (linesT b).length
      · have ew : wrap64 (((linesT a).length : Int) - 1) = (((linesT a).length - 1 : Nat) : Int) := by rw [w64' (by omega) (by omega)]; omega
        have hz1 := linesT_mem (List.getElem_mem (show (linesT a).length - 1 < (linesT a).length by omega))
        have hz2 := linesT_mem (List.getElem_mem hb)
        have e0 := rdOf_get (d := ByteArray.empty) hb
        rw [Int.natCast_zero] at e0
        rw [decide_eq_true (by omega), sennitlaw01_LinesJoins.j1, if_pos rfl, Option.bind_some, if_pos (by simp only [List.length_nil]; omega), Option.bind_some, List.nil_append, ew, if_pos (by omega), if_pos (by omega), if_pos (by omega), rdOf_get (by omega), e0, if_pos (by omega), Option.bind_some, if_pos (by omega), Option.bind_some, if_pos (by rw [List.length_set, List.length_drop]; omega), if_pos rfl, Int.toNat_natCast, ← lines_joins ho hb, hK _ (by omega)]
        rfl
      · have hb0 : linesT b = [] := List.length_eq_zero_iff.1 (by omega)
        have hbe : linesT (a ++ b) = linesT a ++ linesT b := by
          rw [hb0, List.append_nil]
          have : linesU (Lib.bytesOf (a ++ b)) = linesU (Lib.bytesOf a) := by
            rw [linesT_open b ho, show linesU (Lib.bytesOf b) = [] from by simpa [linesT] using hb0]
            rfl
          rw [linesT, this, ← linesT]
        rw [decide_eq_false (by omega), sennitlaw01_LinesJoins.j1, if_neg (by decide), if_pos rfl, Option.bind_some, if_pos (by simp only [List.length_nil]; omega), Option.bind_some, List.nil_append, if_pos (by omega), ← hbe, hK _ (by omega)]
        rfl
    · rw [if_neg ho, sennitlaw01_LinesJoins.j1, if_neg (by decide), if_pos rfl, Option.bind_some, if_pos (by simp only [List.length_nil]; omega), Option.bind_some, List.nil_append, if_pos (by omega), ← linesT_closed b (Bool.eq_false_iff.2 ho), hK _ (by omega)]
      rfl
  · refine ⟨1, ?_⟩
    rw [sennitlaw01_LinesJoins.f, awake01.f, Option.bind_some]
    by_cases h0 : (a.length : Int) > 300
    · rw [if_pos h0, sennitlaw01_LinesJoins.j0, if_pos rfl]
    · rw [if_neg h0, decide_eq_true (by omega), sennitlaw01_LinesJoins.j0, if_pos rfl]
theorem law_LinesJoins (W : World) (A0 : Option Addr) (c0 : Nat) (l0 : List Int) (hr0 : Kd.C (Kd.int .u8) W A0 l0.length l0) (hc0 : l0.length ≤ c0) (g0 : l0.length * 1 ≤ 140737488351232 ∧ ∀ y ∈ l0, (Lit.int .u8 y).wf = true) (A1 : Option Addr) (c1 : Nat) (l1 : List Int) (hr1 : Kd.C (Kd.int .u8) W A1 l1.length l1) (hc1 : l1.length ≤ c1) (g1 : l1.length * 1 ≤ 140737488351232 ∧ ∀ y ∈ l1, (Lit.int .u8 y).wf = true) :
    Calls Try.prog 14 #[.slice A0 l0.length c0, .slice A1 l1.length c1] W fun e w' => e = .returned (.bool true) ∧ Below W.heap.size W w' := by
  obtain ⟨k, hk⟩ := law_LinesJoins_f l0 l1
  exact sennitlaw01_LinesJoins.calls k A0 c0 l0 A1 c1 l1 true W hr0 hc0 hr1 hc1 hk ⟨rfl⟩

/-! Join -/
theorem join_flat (l : List ByteArray) : Lib.join (l.map (·.data.toList)) [] = (us l).flatten := by
  rw [Lib.join]
  have : ∀ L : List (List UInt8), [].intercalate L = L.flatten := by
    intro L
    induction L with
    | nil => rfl
    | cons x xs ih =>
      cases xs with
      | nil => simp [List.intercalate]
      | cons y ys => simp [List.intercalate, List.intersperse] at ih ⊢; exact ih
  exact this _
theorem flat_len (l : List ByteArray) (h : ∀ s ∈ l, s.size ≤ 1000) : (us l).flatten.length ≤ l.length * 1000 := by
  induction l with
  | nil => simp [us]
  | cons x xs ih =>
    have h1 := h x List.mem_cons_self
    have h2 := ih (fun s hs => h s (List.mem_cons_of_mem _ hs))
    simp only [us, List.map_cons, List.flatten_cons, List.length_append, List.length_cons, ← size_len] at h2 ⊢
    omega
/-- All bytes of texts. -/
def allT (l : List ByteArray) : ByteArray := txt (us l).flatten
theorem joinlines (l : List ByteArray) (h : l.length ≤ 1000) (hs : ∀ s ∈ l, s.size ≤ 1000) (k : Nat) (hk : 2 ≤ k) : lines_Join.f k [l] = some (bytesOf (allT l)) := by
  obtain ⟨k, rfl⟩ : ∃ m, k = m + 2 := ⟨k - 2, by omega⟩
  have hfl := flat_len l hs
  have e0 : rd_L5 [l] 0 = l := rfl
  have hz : ([] : List Int).length + (allT l).size < 140737488355328 := by rw [size_len, allT, toList_txt, List.length_nil]; omega
  rw [lines_Join.f, show (([l] : List (List ByteArray)).length : Int) = 1 from rfl, lines_Join.l0, if_pos (by decide), if_pos (by decide), show (([l] : List (List ByteArray)).length : Int) = 1 from rfl, if_pos (by decide), e0, strings_Join.f, show ((⟨#[]⟩ : ByteArray).data.toList) = [] from rfl, join_flat, if_pos ⟨by omega, by omega⟩, Option.bind_some]
  show (if ([] : List Int).length + (allT l).size < 140737488355328 then _ else _) = _
  rw [if_pos hz, show wrap64 (0 + 1) = 1 from w64' (by decide) (by decide), lines_Join.l0, if_neg (by decide)]
  rfl
theorem joinref_l0 (l : List ByteArray) (h : l.length ≤ 1000) (hs : ∀ s ∈ l, s.size ≤ 1000) : ∀ (r i k : Nat), i + r = l.length → r + 1 ≤ k → sennitref01_Join.l0 k l (allT (l.take i)) (i : Int) = some (allT l)
  | 0, i, k + 1, hi, _ => by
    rw [sennitref01_Join.l0, if_neg (by omega), List.take_of_length_le (by omega)]
  | r + 1, i, k + 1, hi, hk => by
    have hlt : i < l.length := by omega
    have ht : allT (l.take (i + 1)) = allT (l.take i) ++ l[i] := by
      rw [← List.take_append_getElem hlt, allT, allT, us, us, List.map_append, List.flatten_append, txt_append]
      simp [txt_toList]
    have hz := hs _ (List.getElem_mem hlt)
    have hz2 := flat_len (l.take i) (fun s hs' => hs s (List.mem_of_mem_take hs'))
    rw [List.length_take] at hz2
    have hsz : (allT (l.take i)).size ≤ 1000000 := by rw [size_len, allT, toList_txt]; omega
    rw [sennitref01_Join.l0, if_pos (by omega), if_pos (by omega), rdOf_get hlt, if_pos (by omega), w64' (by omega) (by omega), ← ht]
    have := joinref_l0 l h hs r (i + 1) k (by omega) (by omega)
    rwa [show ((i + 1 : Nat) : Int) = (i : Int) + 1 from by omega] at this
theorem joinref (l : List ByteArray) (h : l.length ≤ 1000) (hs : ∀ s ∈ l, s.size ≤ 1000) (k : Nat) (hk : l.length + 1 ≤ k) : sennitref01_Join.f k l = some (allT l) := by
  exact joinref_l0 l h hs l.length 0 k (by omega) hk
theorem bytes_nums (s : ByteArray) : Lib.bytesOf (bytesOf s) = s.data.toList := by
  simp [Lib.bytesOf, bytesOf, Function.comp_def]
theorem strOfNums_bytes (s : ByteArray) : strOfNums (bytesOf s) = s := by
  rw [strOfNums_txt, bytes_nums, txt_toList]
theorem linesT_all (l : List ByteArray) : (linesT (bytesOf (allT l)) = l) ↔ mayT l = true := by
  rw [← us_inj, us_lines, bytes_nums, allT, toList_txt, may_iff, mayT]
theorem allT_lines (b : List Int) : allT (linesT b) = strOfNums b := by
  rw [allT, us_lines, linesU_flatten, strOfNums_txt]
end Go.Proofs.Ytkakcefekabmhaa.X
