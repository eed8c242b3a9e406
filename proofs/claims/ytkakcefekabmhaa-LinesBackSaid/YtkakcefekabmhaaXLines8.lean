/-
  What the printed functions of chapter 01 tell: plain Lean.
-/
import Derived.Test.YtkakcefekabmhaaXLines7
import Derived.Test.YtkakcefekabmhaaXBn1
import Derived.Test.YtkakcefekabmhaaXBn2
import Derived.IntWalk
namespace Go.Proofs.Ytkakcefekabmhaa.X
open Go.RowKit Go.Proofs.YtkakcefekabmhaaW.PrintWords Go.Proofs.YtkakcefekabmhaaW.PrintLast Go.Proofs.YtkakcefekabmhaaW.PrintMore
set_option linter.unusedVariables false
set_option linter.unusedSimpArgs false

theorem rdOf_get {α : Type} {d : α} {L : List α} {i : Nat} (h : i < L.length) : rdOf d L (i : Int) = L[i] := by
  simp [rdOf, h]
theorem rd_get' {L : List Int} {i : Nat} (h : i < L.length) : rd L (i : Int) = L[i] := by
  simp [rd, h]
theorem bt_get {s : ByteArray} {i : Nat} (h : i < s.size) : bt s (i : Int) = ((s.data.toList[i]'(by simpa using h)).toNat : Int) := by
  simp [bt, h]; rfl
theorem toList_inj {a b : ByteArray} : a.toList = b.toList ↔ a = b := by
  constructor
  · intro h
    rw [Lib.toList_data, Lib.toList_data] at h
    exact ByteArray.ext (Array.toList_inj.1 h)
  · rintro rfl; rfl
theorem byte_ten (c : UInt8) : ((c.toNat : Int) = 10) ↔ c = 10 := by
  constructor
  · intro h
    have : c.toNat = 10 := by omega
    exact UInt8.toNat_inj.1 this
  · rintro rfl; rfl
theorem size_len (s : ByteArray) : s.size = s.data.toList.length := by simp

theorem same01_l0 (a b : List ByteArray) (hl : a.length = b.length) (hm : a.length ≤ 1000000000) : ∀ (r i k : Nat), i + r = a.length → r + 1 ≤ k → sennitref01_Same.l0 k a b (i : Int) = some (decide (a.drop i = b.drop i))
  | 0, i, k + 1, hi, _ => by
    rw [sennitref01_Same.l0, if_neg (by omega), List.drop_of_length_le (by omega), List.drop_of_length_le (by omega)]
    simp
  | r + 1, i, k + 1, hi, hk => by
    rw [sennitref01_Same.l0, if_pos (by omega), if_pos (by omega), if_pos (by omega), rdOf_get (by omega), rdOf_get (by omega)]
    have ha : a.drop i = a[i] :: a.drop (i + 1) := List.drop_eq_getElem_cons (by omega)
    have hb : b.drop i = b[i] :: b.drop (i + 1) := List.drop_eq_getElem_cons (by omega)
    by_cases e : a[i] = b[i]
    · rw [if_pos (toList_inj.2 e), w64' (by omega) (by omega)]
      have := same01_l0 a b hl hm r (i + 1) k (by omega) (by omega)
      rw [show ((i + 1 : Nat) : Int) = (i : Int) + 1 from by omega] at this
      rw [this]
      simp only [ha, hb, e, List.cons.injEq, true_and]
    · rw [if_neg (fun h => e (toList_inj.1 h))]
      simp only [ha, hb, e, List.cons.injEq, false_and, decide_false]
theorem same01 (a b : List ByteArray) (hm : a.length ≤ 1000000000) : Ev (fun k => sennitref01_Same.f k a b) (decide (a = b)) :=
  ⟨a.length + 1, fun k hk => by
    show sennitref01_Same.f k a b = _
    rw [sennitref01_Same.f]
    by_cases h : a.length = b.length
    · rw [if_pos (by omega)]
      have := same01_l0 a b h hm a.length 0 k (by omega) hk
      simpa using this
    · rw [if_neg (by omega)]
      have : ¬ a = b := fun e => h (by rw [e])
      simp [this]⟩

/-- So many texts, of 100 bytes, at most. -/
def few (l : List ByteArray) (n : Nat) : Bool := decide (l.length ≤ n ∧ ∀ s ∈ l, s.size ≤ 100)
theorem few_l0 (l : List ByteArray) (n : Nat) (hn : n ≤ 1000000) : ∀ (r i k : Nat), i + r = n + 1 → 2 * r + 2 ≤ k → sennitref01_Few.l0 k l (n : Int) (i : Int) = some (decide (l.length ≤ n ∧ ∀ s ∈ l.drop i, s.size ≤ 100))
  | 0, i, k + 2, hi, hk => by
    have e : ((l.length : Int) ≤ (n : Int)) = (l.length ≤ n) := by simp
    rw [sennitref01_Few.l0]
    by_cases h : (i : Int) < l.length
    · rw [if_pos h, decide_eq_false (show ¬ ((i : Int) ≤ (n : Int)) by omega), sennitref01_Few.j1, if_neg (by decide), decide_eq_false (by omega), decide_eq_false (by omega)]
    · rw [if_neg h, sennitref01_Few.j1, if_neg (by decide), List.drop_of_length_le (by omega)]
      simp
  | r + 1, i, k + 2, hi, hk => by
    rw [sennitref01_Few.l0]
    by_cases h : (i : Int) < l.length
    · have hd : l.drop i = l[i] :: l.drop (i + 1) := List.drop_eq_getElem_cons (by omega)
      rw [if_pos h, decide_eq_true (show ((i : Int) ≤ (n : Int)) by omega), sennitref01_Few.j1, if_pos rfl, if_pos (by omega), if_pos h, rdOf_get (by omega), hd]
      by_cases h2 : 100 < l[i].size
      · rw [if_pos (by omega), decide_eq_false]
        rintro ⟨_, h3⟩
        have := h3 l[i] List.mem_cons_self
        omega
      · rw [if_neg (by omega), w64' (by omega) (by omega)]
        have := few_l0 l n hn r (i + 1) k (by omega) (by omega)
        rw [show ((i + 1 : Nat) : Int) = (i : Int) + 1 from by omega] at this
        rw [this]
        simp only [List.forall_mem_cons, show l[i].size ≤ 100 from by omega, true_and]
    · rw [if_neg h, sennitref01_Few.j1, if_neg (by decide), List.drop_of_length_le (by omega)]
      simp
theorem few01 (l : List ByteArray) (n : Nat) (hn : n ≤ 1000000) : Ev (fun k => sennitref01_Few.f k l (n : Int)) (few l n) :=
  ⟨2 * (n + 1) + 2, fun k hk => by
    have := few_l0 l n hn (n + 1) 0 k (by omega) hk
    simpa [sennitref01_Few.f, few] using this⟩

/-- Texts as bytes. -/
def us (l : List ByteArray) : List (List UInt8) := l.map (·.data.toList)
def mayT (l : List ByteArray) : Bool := mayU (us l)
def openT (l : List ByteArray) : Bool := lastOpen (us l)
theorem us_txt (l : List (List UInt8)) : us (l.map txt) = l := by
  simp [us, Function.comp_def, toList_txt]
theorem us_inj {a b : List ByteArray} : us a = us b ↔ a = b := by
  constructor
  · intro h
    have := congrArg (List.map txt) h
    simpa [us, Function.comp_def, txt_toList] using this
  · rintro rfl; rfl
theorem us_lines (b : List Int) : us (linesT b) = linesU (Lib.bytesOf b) := us_txt _

theorem feeds_l0 (s : ByteArray) (hs : s.size ≤ 1000000000) : ∀ (r i k : Nat) (n : Nat), i + r = s.size → n ≤ i → r + 1 ≤ k → sennitref01_feeds.l0 k s (n : Int) (i : Int) = some (((n + (s.data.toList.drop i).count 10 : Nat) : Int))
  | 0, i, k + 1, n, hi, hn, _ => by
    rw [sennitref01_feeds.l0, if_neg (by omega), List.drop_of_length_le (by rw [← size_len]; omega)]
    simp
  | r + 1, i, k + 1, n, hi, hn, hk => by
    have hd : s.data.toList.drop i = (s.data.toList[i]'(by rw [← size_len]; omega)) :: s.data.toList.drop (i + 1) := List.drop_eq_getElem_cons (by rw [← size_len]; omega)
    rw [sennitref01_feeds.l0, if_pos (by omega), if_pos (by omega), bt_get (by omega), hd]
    obtain ⟨c, hc⟩ : ∃ c, s.data.toList[i]'(by rw [← size_len]; omega) = c := ⟨_, rfl⟩
    rw [hc, w64' (x := (i : Int) + 1) (by omega) (by omega), w64' (x := (n : Int) + 1) (by omega) (by omega)]
    by_cases e : c = 10
    · rw [if_pos ((byte_ten c).2 e), e, List.count_cons_self]
      have := feeds_l0 s hs r (i + 1) k (n + 1) (by omega) (by omega) (by omega)
      rw [show ((i + 1 : Nat) : Int) = (i : Int) + 1 from by omega, show ((n + 1 : Nat) : Int) = (n : Int) + 1 from by omega] at this
      rw [this]
      congr 1; omega
    · rw [if_neg (fun h => e ((byte_ten c).1 h)), List.count_cons_of_ne e]
      have := feeds_l0 s hs r (i + 1) k n (by omega) (by omega) (by omega)
      rw [show ((i + 1 : Nat) : Int) = (i : Int) + 1 from by omega] at this
      rw [this]
theorem feeds01 (s : ByteArray) (hs : s.size ≤ 1000000000) (k : Nat) (hk : s.size + 1 ≤ k) : sennitref01_feeds.f k s = some ((s.data.toList.count 10 : Nat) : Int) := by
  have := feeds_l0 s hs s.size 0 k 0 (by omega) (by omega) hk
  simpa [sennitref01_feeds.f] using this
theorem getLast_idx (s : ByteArray) (h : 0 < s.size) : s.data.toList.getLast? = some (s.data.toList[s.size - 1]'(by rw [← size_len]; omega)) := by
  rw [List.getLast?_eq_getElem?, List.getElem?_eq_getElem (by simp at h ⊢; omega)]
  simp
theorem line01 (s : ByteArray) (hs : s.size ≤ 1000000000) (k : Nat) (hk : s.size + 1 ≤ k) : sennitref01_Line.f k s = some (closedU s.data.toList) := by
  rw [sennitref01_Line.f, feeds01 s hs k hk, Option.bind_some, closed_iff]
  by_cases h1 : s.data.toList.count 10 = 1
  · have hp : 0 < s.size := by
      rw [size_len]
      exact List.length_pos_iff.2 (fun e => by rw [e] at h1; simp at h1)
    have ew : wrap64 ((s.size : Int) - 1) = ((s.size - 1 : Nat) : Int) := by rw [w64' (by omega) (by omega)]; omega
    rw [if_pos (by omega), ew, if_pos (by omega), if_pos (by omega), bt_get (by omega), getLast_idx s hp]
    congr 1
    rw [decide_eq_true h1, Bool.true_and, Bool.eq_iff_iff]
    simp only [beq_iff_eq, decide_eq_true_eq, Option.some.injEq, byte_ten]
  · rw [if_neg (by omega), decide_eq_false h1]
    rfl
/-- May, from a place on. -/
theorem mayU_snoc (s : List UInt8) (t : List (List UInt8)) : mayU (s :: t) = ((closedU s || (openU s && decide (t = []))) && mayU t) := by
  cases t with
  | nil => simp [mayU]
  | cons y ys => rw [mayU_cons _ (by simp)]; simp
theorem mayref_l0 (l : List ByteArray) (hl : l.length ≤ 1000000) (M : Nat) (hM : M ≤ 1000000) (hs : ∀ s ∈ l, s.size ≤ M) : ∀ (r i k : Nat), i + r = l.length → r + M + 2 ≤ k → sennitref01_May.l0 k l (i : Int) = some (mayT (l.drop i))
  | 0, i, k + 1, hi, _ => by
    rw [sennitref01_May.l0, if_neg (by omega), List.drop_of_length_le (by omega)]
    rfl
  | r + 1, i, k + 1, hi, hk => by
    have hd : l.drop i = l[i] :: l.drop (i + 1) := List.drop_eq_getElem_cons (by omega)
    have hz : l[i].size ≤ M := hs _ (List.getElem_mem _)
    have ih := mayref_l0 l hl M hM hs r (i + 1) k (by omega) (by omega)
    rw [show ((i + 1 : Nat) : Int) = (i : Int) + 1 from by omega] at ih
    have hln := line01 l[i] (by omega) k (by omega)
    have hfd := feeds01 l[i] (by omega) k (by omega)
    rw [sennitref01_May.l0, if_pos (by omega), rdOf_get (by omega), w64' (x := (i : Int) + 1) (by omega) (by omega), w64' (x := (l.length : Int) - 1) (by omega) (by omega), hln, hfd, ih, hd]
    have hm : mayT (l[i] :: l.drop (i + 1)) = ((closedU l[i].data.toList || ((decide (0 < l[i].size) && decide (l[i].data.toList.count 10 = 0)) && decide (l.drop (i + 1) = []))) && mayT (l.drop (i + 1))) := by
      simp only [mayT, us, List.map_cons, mayU_snoc, open_iff, ← size_len, List.map_eq_nil_iff]
    have hnil : (l.drop (i + 1) = []) ↔ ((i : Int) = (l.length : Int) - 1) := by
      rw [List.drop_eq_nil_iff]; omega
    rw [hm]
    obtain ⟨m, hm⟩ : ∃ m, mayT (l.drop (i + 1)) = m := ⟨_, rfl⟩
    obtain ⟨c, hc⟩ : ∃ c, closedU l[i].data.toList = c := ⟨_, rfl⟩
    rw [hm, hc]
    simp only [Option.bind_some]
    clear hm hln hfd ih hd hc
    by_cases e1 : (i : Int) = (l.length : Int) - 1
    · rw [if_pos e1, if_pos (by omega), decide_eq_true (hnil.2 e1), Bool.and_true]
      by_cases e2 : 0 < l[i].size
      · rw [if_pos (by omega), decide_eq_true e2, Bool.true_and]
        by_cases e3 : l[i].data.toList.count 10 = 0
        · rw [if_pos (by omega), decide_eq_true e3]
          cases c <;> cases m <;> rfl
        · rw [if_neg (by omega), decide_eq_false e3]
          cases c <;> cases m <;> rfl
      · rw [if_neg (by omega), decide_eq_false e2]
        cases c <;> cases m <;> rfl
    · rw [if_neg e1, if_pos (by omega), decide_eq_false (fun h => e1 (hnil.1 h)), Bool.and_false]
      cases c <;> cases m <;> rfl
theorem mayref (l : List ByteArray) (hl : l.length ≤ 1000000) (hs : ∀ s ∈ l, s.size ≤ 1000000) : Ev (fun k => sennitref01_May.f k l) (mayT l) :=
  ⟨l.length + 1000000 + 2, fun k hk => by
    have := mayref_l0 l hl 1000000 (Nat.le_refl _) hs l.length 0 k (by omega) hk
    simpa [sennitref01_May.f] using this⟩

/-- lines.May. -/
theorem index_cases (u : List UInt8) : (¬ (10 : UInt8) ∈ u ∧ Lib.indexByte u 10 = -1) ∨ ((10 : UInt8) ∈ u ∧ 0 ≤ Lib.indexByte u 10) := by
  induction u with
  | nil => left; simp [Lib.indexByte]
  | cons x xs ih =>
    simp only [Lib.indexByte, List.mem_cons]
    by_cases e : x = 10
    · right; simp [e]
    · have e' : (x == 10) = false := by simp [e]
      have e2 : ¬ (10 : UInt8) = x := fun h => e h.symm
      rw [e']
      rcases ih with ⟨h1, h2⟩ | ⟨h1, h2⟩
      · left; simp [h1, h2, e2]
      · right
        refine ⟨.inr h1, ?_⟩
        rw [if_neg (by decide), if_neg (by simp; omega)]
        omega
theorem index_no (u : List UInt8) : (Lib.indexByte u 10 < 0) ↔ u.count 10 = 0 := by
  rw [List.count_eq_zero]
  rcases index_cases u with ⟨h1, h2⟩ | ⟨h1, h2⟩
  · simp [h1, h2]
  · simp only [h1, not_true, iff_false]; omega
/-- The index at the last place: closed. -/
theorem index_last (u : List UInt8) (h : 0 ≤ Lib.indexByte u 10) : (Lib.indexByte u 10 = (u.length : Int) - 1) ↔ closedU u = true := by
  rcases index_cases u with ⟨h1, h2⟩ | ⟨h1, h2⟩
  · omega
  · rcases index_cut u with ⟨h3, h4⟩ | ⟨h3, h4⟩
    · omega
    · simp only [closedU, decide_eq_true_eq, h1, true_and]; omega
end Go.Proofs.Ytkakcefekabmhaa.X
