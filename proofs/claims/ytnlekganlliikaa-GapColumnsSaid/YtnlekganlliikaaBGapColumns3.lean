/-
  Parts of one proof, one behind the other: XRef19, XGapL, XGapTells.
-/
import Derived.Test.YtnlekganlliikaaBGapColumns2
import Derived.IntWalk
-- part XRef19
namespace Go.Proofs.Ytnlekganlliikaa.X
open Go.RowKit Go.Proofs.YtnlekganlliikaaW.PrintWords Go.Proofs.YtnlekganlliikaaW.PrintLast Go.Proofs.YtnlekganlliikaaW.PrintMore
set_option linter.unusedVariables false
set_option linter.unusedSimpArgs false
abbrev ApiRow := S37
theorem apiRow_ext {x y : ApiRow} (h0 : x.f0 = y.f0) (h1 : x.f1 = y.f1) : x = y := by
  cases x; cases y; cases h0; cases h1; rfl
instance apiRowDec : DecidableEq ApiRow := fun x y => decidable_of_iff (x.f0 = y.f0 ∧ x.f1 = y.f1) ⟨fun h => apiRow_ext h.1 h.2, fun h => by rw [h]; exact ⟨rfl, rfl⟩⟩
/-- A string of bytes. -/
def bs (l : List UInt8) : ByteArray := ⟨l.toArray⟩
theorem bs_size (a : List UInt8) : (bs a).size = a.length := by simp [bs, ByteArray.size]
section
variable {col : Nat} {list : List ByteArray} {R : List ApiRow} {ms : List Int}
end
theorem rowOut_f0 (n : Nat) (x : RowG) : (rowOut n x).f0 = bs ((x.1.map markB).take n) := rfl
end Go.Proofs.Ytnlekganlliikaa.X
-- part XGapL
namespace Go.Proofs.Ytnlekganlliikaa.X
open Go.RowKit Go.Proofs.YtnlekganlliikaaW.PrintWords Go.Proofs.YtnlekganlliikaaW.PrintLast Go.Proofs.YtnlekganlliikaaW.PrintMore
set_option linter.unusedVariables false
set_option linter.unusedSimpArgs false
theorem awake19 : sennitlaw19_awake.f = some true := by decide +kernel
end Go.Proofs.Ytnlekganlliikaa.X
-- part XGapTells
namespace Go.Proofs.Ytnlekganlliikaa.X
open Go.RowKit Go.Proofs.YtnlekganlliikaaW.PrintWords Go.Proofs.YtnlekganlliikaaW.PrintLast Go.Proofs.YtnlekganlliikaaW.PrintMore
set_option linter.unusedVariables false
set_option linter.unusedSimpArgs false
theorem ref_Few06 (ls : List (List ByteArray)) : ∃ b, Gives (fun k => sennitref06_Few.f k ([] : List ByteArray) ls) b ∧ (b = true → ls.length ≤ 6 ∧ ∀ l ∈ ls, l.length ≤ 20 ∧ ∀ s ∈ l, s.size ≤ 100) := by
  have he : Gives (fun k => sennitref01_Few.f k ([] : List ByteArray) 20) true := (ref_few01 [] 20 (by omega)).eq (by simp [fewB])
  have hlast : ∀ i : Nat, (i = ls.length ∨ i = 7) → (∀ l ∈ ls.take i, fewB l 20 = true) → ∃ b, Gives (fun k => sennitref06_Few.j1 k [] ls (i : Int) false) b ∧ (b = true → ls.length ≤ 6 ∧ ∀ l ∈ ls, fewB l 20 = true) := by
    intro i hi hP
    refine ⟨decide ((ls.length : Int) ≤ 6), Gives.last he fun k hk => ?_, fun h => ?_⟩
    · show sennitref06_Few.j1 (k + 1) [] ls (i : Int) false = _
      rw [sennitref06_Few.j1, if_neg (by decide), hk, Option.bind_some, if_pos rfl]
    · have h6 := of_decide_eq_true h
      rw [List.take_of_length_le (by omega)] at hP
      exact ⟨by omega, hP⟩
  have hmain : ∀ (r i : Nat), i + r = min ls.length 7 → (∀ l ∈ ls.take i, fewB l 20 = true) → ∃ b, Gives (fun k => sennitref06_Few.l0 k [] ls (i : Int)) b ∧ (b = true → ls.length ≤ 6 ∧ ∀ l ∈ ls, fewB l 20 = true) := by
    intro r
    induction r with
    | zero =>
      intro i hi hP
      obtain ⟨b, h1, h2⟩ := hlast i (by omega) hP
      refine ⟨b, h1.step fun k => ?_, h2⟩
      show sennitref06_Few.l0 (k + 1) [] ls (i : Int) = _
      rw [sennitref06_Few.l0]
      by_cases h : i < ls.length
      · rw [if_pos (by omega), decide_eq_false (by omega)]
      · rw [if_neg (by omega)]
    | succ r ih =>
      intro i hi hP
      have hil : i < ls.length := by omega
      have e : rd_L1 ls (i : Int) = ls[i] := getN hil
      have hf := ref_few01 ls[i] 20 (by omega)
      have h0 : ∀ b, Gives (fun k => sennitref06_Few.j1 k [] ls (i : Int) true) b → Gives (fun k => sennitref06_Few.l0 k [] ls (i : Int)) b := fun b hb => hb.step fun k => by
        show sennitref06_Few.l0 (k + 1) [] ls (i : Int) = _
        rw [sennitref06_Few.l0, if_pos (by omega), decide_eq_true (by omega)]
      cases hb : fewB ls[i] 20 with
      | true =>
        obtain ⟨b, h1, h2⟩ := ih (i + 1) (by omega) (fun l hl => by
          rw [← List.take_append_getElem hil] at hl
          rcases List.mem_append.1 hl with hl | hl
          · exact hP l hl
          · rw [List.mem_singleton.1 hl]; exact hb)
        refine ⟨b, h0 b (Gives.call hf h1 fun k hk => ?_), h2⟩
        show sennitref06_Few.j1 (k + 1) [] ls (i : Int) true = _
        rw [sennitref06_Few.j1, if_pos rfl, if_pos (by omega), if_pos (by omega), e]
        have hk' : sennitref01_Few.f k ls[i] 20 = some true := by rw [← hb]; exact hk
        rw [hk', Option.bind_some, if_pos rfl, gw1 (by omega)]
      | false =>
        refine ⟨false, h0 false (Gives.last hf fun k hk => ?_), fun h => by cases h⟩
        show sennitref06_Few.j1 (k + 1) [] ls (i : Int) true = _
        have hk' : sennitref01_Few.f k ls[i] 20 = some false := by rw [← hb]; exact hk
        rw [sennitref06_Few.j1, if_pos rfl, if_pos (by omega), if_pos (by omega), e, hk', Option.bind_some, if_neg (by decide)]
  obtain ⟨b, h1, h2⟩ := hmain (min ls.length 7) 0 (by omega) (by simp)
  refine ⟨b, h1.same fun k => rfl, fun h => ?_⟩
  obtain ⟨h3, h4⟩ := h2 h
  exact ⟨h3, fun l hl => by simpa [fewB] using h4 l hl⟩
theorem sumLen_take (n : Nat) : ∀ (ls : List (List ByteArray)) (i : Nat), (∀ l ∈ ls, l.length ≤ n) → sumLen (ls.take i) ≤ i * n
  | [], i, h => by simp [sumLen]
  | l :: ls, 0, h => by simp [sumLen]
  | l :: ls, i + 1, h => by
    have h1 := sumLen_take n ls i (fun x hx => h x (List.mem_cons_of_mem _ hx))
    have h2 := h l List.mem_cons_self
    rw [Nat.succ_mul]
    simp only [sumLen, List.take_succ_cons, List.map_cons, List.sum_cons] at h1 ⊢
    omega
theorem eachG_rows : ∀ (ls : List (List ByteArray)) (i : Nat) (rs : List RowG) (e : Int), (∀ l ∈ ls, l.length ≤ 2000) → rs.length + sumLen ls ≤ 2000 → eachG i ls rs e = (rowsFrom i ls rs, e)
  | [], i, rs, e, _, _ => rfl
  | l :: ls, i, rs, e, h, hs => by
    have hl := h l List.mem_cons_self
    have h2 := comeF_len i l rs
    simp only [sumLen, List.map_cons, List.sum_cons] at hs
    rw [eachG, comeS, if_pos ⟨by omega, hl⟩, rowsFrom]
    exact eachG_rows ls (i + 1) _ e (fun x hx => h x (List.mem_cons_of_mem _ hx)) (by simp only [sumLen]; omega)
theorem gapF_rows {ls : List (List ByteArray)} (h1 : ls.length ≤ 16) (hs : sumLen ls ≤ 2000) : gapF ls = ((rowsOf ls).map (rowOut ls.length), 0) := by
  have hle : ∀ l ∈ ls, l.length ≤ sumLen ls := by
    intro l hl
    obtain ⟨a, b, rfl⟩ := List.append_of_mem hl
    simp [sumLen]; omega
  rw [gapF, if_neg (by omega), eachG_rows ls 0 [] 0 (fun l hl => by have := hle l hl; omega) (by simpa using hs), if_neg (fun h => h rfl)]
  rfl
theorem gap_rows {ls : List (List ByteArray)} (h1 : ls.length ≤ 16) (hs : sumLen ls ≤ 2000) (hz : ∀ l ∈ ls, ∀ s ∈ l, s.size ≤ maxLen) : gap_Coalesce.f ls = some ((rowsOf ls).map (rowOut ls.length), 0) := by
  have hle : ∀ l ∈ ls, l.length ≤ sumLen ls := by
    intro l hl
    obtain ⟨a, b, rfl⟩ := List.append_of_mem hl
    simp [sumLen]; omega
  rw [gap_Coalesce.f, if_pos (fun l hl => ⟨by have := hle l hl; omega, hz l hl⟩), gapF_rows h1 hs]
theorem few_gap {ls : List (List ByteArray)} (h1 : ls.length ≤ 6) (h2 : ∀ l ∈ ls, l.length ≤ 20 ∧ ∀ s ∈ l, s.size ≤ 100) : gap_Coalesce.f ls = some ((rowsOf ls).map (rowOut ls.length), 0) := by
  refine gap_rows (by omega) ?_ (fun l hl s hs => by have := (h2 l hl).2 s hs; unfold maxLen; omega)
  have := sumLen_take 20 ls ls.length (fun l hl => (h2 l hl).1)
  rw [List.take_length] at this
  omega
theorem ref_Column19 (R : List ApiRow) (c : Nat) (hR : R.length ≤ 100000) (hc : c ≤ 100) : Gives (fun k => sennitref19_Column.f k R (c : Int)) ((R.filter (fun x => x.f0.data.toList[c]? == some 45)).map (·.f1)) := by
  have hl : ∀ (r i : Nat) (out : List ByteArray), i + r = R.length → out.length ≤ i → Gives (fun k => sennitref19_Column.l0 k R (c : Int) out (i : Int)) (out ++ ((R.drop i).filter (fun x => x.f0.data.toList[c]? == some 45)).map (·.f1)) := by
    intro r
    induction r with
    | zero =>
      intro i out hi ho
      refine Gives.of fun k => ?_
      show sennitref19_Column.l0 (k + 1) R (c : Int) out (i : Int) = _
      rw [sennitref19_Column.l0, if_neg (by omega), List.drop_of_length_le (by omega)]
      simp
    | succ r ih =>
      intro i out hi ho
      have hiR : i < R.length := by omega
      have e : rd_T37 R (i : Int) = R[i] := getN hiR
      rw [dropCons hiR]
      by_cases h : c < R[i].f0.size
      · have hc' : c < R[i].f0.data.toList.length := by rw [← sizeLen]; exact h
        have hg : R[i].f0.data.toList[c]? = some R[i].f0.data.toList[c] := List.getElem?_eq_getElem hc'
        by_cases h45 : R[i].f0.data.toList[c] = 45
        · have hf : (R[i].f0.data.toList[c]? == some 45) = true := by rw [hg, h45]; rfl
          rw [List.filter_cons_of_pos (by exact hf), List.map_cons]
          have := ih (i + 1) (out ++ [R[i].f1]) (by omega) (by simp; omega)
          rw [List.append_assoc, List.singleton_append] at this
          refine this.step fun k => ?_
          show sennitref19_Column.l0 (k + 1) R (c : Int) out (i : Int) = _
          rw [sennitref19_Column.l0, if_pos (by omega), if_pos (by omega), e, if_pos (by omega), if_pos (by omega), btN h, h45, if_pos (by decide), if_pos (by omega), gw1 (by omega)]
        · have hf : ¬ (R[i].f0.data.toList[c]? == some 45) = true := by rw [hg]; simpa using h45
          rw [List.filter_cons_of_neg (by exact hf)]
          refine (ih (i + 1) out (by omega) (by omega)).step fun k => ?_
          show sennitref19_Column.l0 (k + 1) R (c : Int) out (i : Int) = _
          have hn : ¬ ((R[i].f0.data.toList[c].toNat : Nat) : Int) = 45 := by
            intro h
            apply h45
            apply UInt8.toNat_inj.1
            show _ = 45
            omega
          rw [sennitref19_Column.l0, if_pos (by omega), if_pos (by omega), e, if_pos (by omega), if_pos (by omega), btN h, if_neg hn, gw1 (by omega)]
      · have hg : R[i].f0.data.toList[c]? = none := List.getElem?_eq_none (by rw [← sizeLen]; omega)
        have hf : ¬ (R[i].f0.data.toList[c]? == some 45) = true := by rw [hg]; decide
        rw [List.filter_cons_of_neg (by exact hf)]
        refine (ih (i + 1) out (by omega) (by omega)).step fun k => ?_
        show sennitref19_Column.l0 (k + 1) R (c : Int) out (i : Int) = _
        rw [sennitref19_Column.l0, if_pos (by omega), if_pos (by omega), e, if_neg (by omega), gw1 (by omega)]
  exact (hl R.length 0 [] (by omega) (Nat.zero_le _)).same fun k => rfl
theorem rowOut_byte {n c : Nat} {x : RowG} (hx : x.1.length = 16) (hn : n ≤ 16) (hc : c < n) : (rowOut n x).f0.data.toList[c]? = some (markB (x.1.getD c 0)) := by
  have hc16 : c < x.1.length := by omega
  show ((x.1.map markB).take n)[c]? = _
  rw [List.getElem?_take_of_lt hc, List.getElem?_map, List.getElem?_eq_getElem hc16]
  simp [hc16]
theorem column_colT {n c : Nat} (hn : n ≤ 16) (hc : c < n) : ∀ (rs : List RowG), Cols n rs → ((rs.map (rowOut n)).filter (fun x => x.f0.data.toList[c]? == some 45)).map (·.f1) = colT c rs
  | [], _ => rfl
  | x :: rs, h => by
    have hx := h x List.mem_cons_self
    have ih := column_colT hn hc rs (fun y hy => h y (List.mem_cons_of_mem _ hy))
    rw [List.map_cons, colT_cons]
    have hb := rowOut_byte hx.1 hn hc
    rcases hx.2.1 c with h0 | h1
    · rw [List.filter_cons_of_neg (by rw [hb, h0]; decide), ih, if_neg (by rw [h0]; decide)]; rfl
    · rw [List.filter_cons_of_pos (by rw [hb, h1]; decide), List.map_cons, ih, if_pos h1]; rfl
/-- All rows may be: so many marks, minus signs and blanks, one minus sign at least. -/
theorem col_l2 (ls : List (List ByteArray)) (R : List ApiRow) (hl : ls.length ≤ 16) (i : Nat) (hi : i < R.length) (hR : R.length ≤ 100000) (hs : R[i].f0.size = ls.length) (hb : ∀ c ∈ R[i].f0.data.toList, c = 45 ∨ c = 32) (hex : 45 ∈ R[i].f0.data.toList)
    (hn : Gives (fun k => sennitlaw19_GapColumns.l1 k ls true R 0 ((i + 1 : Nat) : Int)) true) :
    ∀ (r j n : Nat), j + r = ls.length → (45 ∈ R[i].f0.data.toList.take j → 0 < n) → n ≤ j → Gives (fun k => sennitlaw19_GapColumns.l2 k ls true R 0 (i : Int) (n : Int) (j : Int)) true := by
  have e : rd_T37 R (i : Int) = R[i] := getN hi
  intro r
  induction r with
  | zero =>
    intro j n hj hp hnj
    rw [List.take_of_length_le (by rw [← sizeLen]; omega)] at hp
    have := hp hex
    refine hn.step fun k => ?_
    show sennitlaw19_GapColumns.l2 (k + 1) ls true R 0 (i : Int) (n : Int) (j : Int) = _
    rw [sennitlaw19_GapColumns.l2, if_pos (by omega), if_pos (by omega), e, if_neg (by omega), if_neg (by omega), if_pos (by omega), gw1 (by omega)]
  | succ r ih =>
    intro j n hj hp hnj
    have hjs : j < R[i].f0.size := by omega
    have hjl : j < R[i].f0.data.toList.length := by rw [← sizeLen]; exact hjs
    have tk := List.take_append_getElem hjl
    rcases hb _ (List.getElem_mem hjl) with h | h
    · refine (ih (j + 1) (n + 1) (by omega) (fun _ => by omega) (by omega)).step fun k => ?_
      show sennitlaw19_GapColumns.l2 (k + 1) ls true R 0 (i : Int) (n : Int) (j : Int) = _
      rw [sennitlaw19_GapColumns.l2, if_pos (by omega), if_pos (by omega), e, if_pos (by omega), if_pos (by omega), btN hjs, h, if_pos (by decide), gw1 (by omega), gw1 (by omega)]
    · refine (ih (j + 1) n (by omega) (fun hm => ?_) (by omega)).step fun k => ?_
      · rw [← tk, h] at hm
        rcases List.mem_append.1 hm with hm | hm
        · exact hp hm
        · exact absurd (List.mem_singleton.1 hm) (by decide)
      · show sennitlaw19_GapColumns.l2 (k + 1) ls true R 0 (i : Int) (n : Int) (j : Int) = _
        rw [sennitlaw19_GapColumns.l2, if_pos (by omega), if_pos (by omega), e, if_pos (by omega), if_pos (by omega), btN hjs, h, if_neg (by decide), if_pos (by decide), gw1 (by omega)]
theorem col_l1 (ls : List (List ByteArray)) (R : List ApiRow) (hl : ls.length ≤ 16) (hR : R.length ≤ 100000) (h : ∀ x ∈ R, x.f0.size = ls.length ∧ (∀ c ∈ x.f0.data.toList, c = 45 ∨ c = 32) ∧ 45 ∈ x.f0.data.toList) :
    ∀ (r i : Nat), i + r = R.length → Gives (fun k => sennitlaw19_GapColumns.l1 k ls true R 0 (i : Int)) true := by
  intro r
  induction r with
  | zero =>
    intro i hi
    refine Gives.of fun k => ?_
    show sennitlaw19_GapColumns.l1 (k + 1) ls true R 0 (i : Int) = _
    rw [sennitlaw19_GapColumns.l1, if_neg (by omega), if_pos rfl]; rfl
  | succ r ih =>
    intro i hi
    have hiR : i < R.length := by omega
    obtain ⟨h1, h2, h3⟩ := h R[i] (List.getElem_mem hiR)
    refine (col_l2 ls R hl i hiR hR h1 h2 h3 (ih (i + 1) (by omega)) ls.length 0 0 (by omega) (by simp) (Nat.le_refl _)).step fun k => ?_
    show sennitlaw19_GapColumns.l1 (k + 1) ls true R 0 (i : Int) = _
    rw [sennitlaw19_GapColumns.l1, if_pos (by omega)]; rfl
theorem rowOut_ok {n : Nat} (hn : n ≤ 16) {rs : List RowG} (h : Cols n rs) : ∀ x ∈ rs.map (rowOut n), x.f0.size = n ∧ (∀ c ∈ x.f0.data.toList, c = 45 ∨ c = 32) ∧ 45 ∈ x.f0.data.toList := by
  intro x hx
  obtain ⟨y, hy, rfl⟩ := List.mem_map.1 hx
  obtain ⟨h1, h2, h3, c, h4, h5⟩ := h y hy
  refine ⟨by rw [rowOut_f0, bs_size, List.length_take, List.length_map]; omega, fun b hb => ?_, ?_⟩
  · have hb' : b ∈ (y.1.map markB).take n := hb
    obtain ⟨m, _, rfl⟩ := List.mem_map.1 (List.mem_of_mem_take hb')
    unfold markB; split <;> simp
  · have := rowOut_byte h1 hn h4
    rw [h5] at this
    exact List.mem_of_getElem? this
theorem columns19 (ls : List (List ByteArray)) : Gives (fun k => sennitlaw19_GapColumns.f k ls) true := by
  obtain ⟨b, h1, h2⟩ := ref_Few06 ls
  cases b with
  | false =>
    refine Gives.last0 h1 fun k hk => ?_
    show sennitlaw19_GapColumns.f k ls = _
    rw [sennitlaw19_GapColumns.f, awake19, Option.bind_some, hk, Option.bind_some, if_neg (by decide)]
  | true =>
    obtain ⟨h3, h4⟩ := h2 rfl
    have hg := few_gap h3 h4
    have hcols := rowsOf_cols ls (by omega)
    have hlen : (rowsOf ls).length ≤ 1000 := by
      have := rowsOf_le ls
      have h5 := sumLen_take 20 ls ls.length (fun l hl => (h4 l hl).1)
      rw [List.take_length] at h5
      omega
    have hR : ((rowsOf ls).map (rowOut ls.length)).length ≤ 1000 := by rw [List.length_map]; exact hlen
    have hrows := rowOut_ok (n := ls.length) (by omega) hcols
    have hcol : ∀ c, c < ls.length → Gives (fun k => sennitref19_Column.f k ((rowsOf ls).map (rowOut ls.length)) (c : Int)) (ls.getD c []) := fun c hc => by
      have := ref_Column19 ((rowsOf ls).map (rowOut ls.length)) c (by omega) (by omega)
      rw [column_colT (by omega) hc _ hcols, rowsOf_colT ls (by omega) c hc] at this
      exact this
    obtain ⟨R, hRe⟩ : ∃ R, (rowsOf ls).map (rowOut ls.length) = R := ⟨_, rfl⟩
    rw [hRe] at hg hR hrows hcol
    have hl0 : ∀ (r i : Nat), i + r = ls.length → Gives (fun k => sennitlaw19_GapColumns.l0 k ls true R 0 (i : Int)) true := by
      intro r
      induction r with
      | zero =>
        intro i hi
        refine (col_l1 ls R (by omega) (by omega) hrows R.length 0 (by omega)).step fun k => ?_
        show sennitlaw19_GapColumns.l0 (k + 1) ls true R 0 (i : Int) = _
        rw [sennitlaw19_GapColumns.l0, if_neg (by omega)]; rfl
      | succ r ih =>
        intro i hi
        have hil : i < ls.length := by omega
        have e : rd_L1 ls (i : Int) = ls[i] := getN hil
        have hc := hcol i hil
        rw [show ls.getD i [] = ls[i] by simp [hil]] at hc
        have hs := (ref_same01 ls[i] ls[i] (by have := (h4 _ (List.getElem_mem hil)).1; omega)).eq (decide_eq_true rfl)
        refine Gives.call hc (Gives.call0 hs (ih (i + 1) (by omega)) (f := fun k => (sennitref01_Same.f k ls[i] ls[i]).bind fun t122 => (if t122 = true then (sennitlaw19_GapColumns.l0 k ls true R 0 ((i + 1 : Nat) : Int)) else (some false))) fun k hk => ?_) fun k hk => ?_
        · show Option.bind _ _ = _
          rw [hk, Option.bind_some, if_pos rfl]
        · show sennitlaw19_GapColumns.l0 (k + 1) ls true R 0 (i : Int) = _
          rw [sennitlaw19_GapColumns.l0, if_pos (by omega), hk, Option.bind_some, if_pos (by omega), e, gw1 (by omega)]
    refine Gives.call0 h1 (hl0 ls.length 0 (by omega)) fun k hk => ?_
    show sennitlaw19_GapColumns.f k ls = _
    rw [sennitlaw19_GapColumns.f, awake19, Option.bind_some, hk, Option.bind_some, if_pos rfl, hg, Option.bind_some]; rfl
theorem law_GapColumns (W : World) (A0 : Option Addr) (c0 : Nat) (l0 : List (List ByteArray)) (hr0 : Kd.C (Kd.slice 9 Kd.string) W A0 l0.length l0) (hc0 : l0.length ≤ c0) (g0 : l0.length * 24 ≤ 140737488351232 ∧ ∀ y ∈ l0, y.length * 16 ≤ 140737488351232 ∧ ∀ yy ∈ y, yy.size ≤ 140737488351232) :
    Calls Try.prog 4 #[.slice A0 l0.length c0] W fun e w' => e = .returned (.bool true) ∧ Below W.heap.size W w' := by
  obtain ⟨k, hk⟩ := columns19 l0
  exact sennitlaw19_GapColumns.calls k A0 c0 l0 true W hr0 hc0 (hk k (Nat.le_refl _)) ⟨rfl⟩
end Go.Proofs.Ytnlekganlliikaa.X
