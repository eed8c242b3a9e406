/-
  sennitlaw03.LcsPairs: by hand.
-/
import Derived.Test.YtkakcefekabmhaaXLcsB
namespace Go.Proofs.Ytkakcefekabmhaa.X
open Go.RowKit Go.Proofs.YtkakcefekabmhaaW.PrintWords Go.Proofs.YtkakcefekabmhaaW.PrintLast Go.Proofs.YtkakcefekabmhaaW.PrintMore
set_option linter.unusedVariables false
set_option linter.unusedSimpArgs false

/-- What is told of the rest of a match. -/
def PairsAt (a b ms : List Int) (i : Nat) (last n : Int) : Prop := ∃ (j r : Nat), Rises (a.drop i) (b.drop j) j (ms.drop i) r ∧ last < (j : Int) ∧ -1 ≤ last ∧ n + (r : Int) = ((lcsL a b : Nat) : Int) ∧ 0 ≤ n
section
variable {a b ms : List Int} {i : Nat} {last n x : Int}
theorem PairsAt.start : PairsAt a b (matchOf a b) 0 (-1) 0 := ⟨0, lcsL a b, by simpa [matchOf] using matchFrom_rises a b 0, by omega, by omega, by omega, by omega⟩
theorem PairsAt.step (h : PairsAt a b ms i last n) (hi : i < a.length) (hm : ms[i]? = some x) :
    (x = -1 ∧ PairsAt a b ms (i + 1) last n) ∨ (∃ (q : Nat) (y : Int), x = (q : Int) ∧ last < x ∧ a[i]? = some y ∧ b[q]? = some y ∧ PairsAt a b ms (i + 1) x (n + 1)) := by
  obtain ⟨j, r, h1, h2, h3, h4, h5⟩ := h
  rw [drop_cons' hm] at h1
  rcases h1 with ⟨e, h1⟩ | ⟨k, n', e1, e2, e3, e4, h1⟩
  · rw [List.tail_drop] at h1
    exact .inl ⟨e, j, r, h1, h2, h3, h4, h5⟩
  · right
    rw [List.tail_drop, List.drop_drop] at h1
    rw [List.getElem?_drop, List.head?_drop, List.getElem?_eq_getElem hi] at e3
    refine ⟨j + k, a[i], e1, by omega, List.getElem?_eq_getElem hi, e3, j + k + 1, n', ?_, by omega, by omega, by omega, by omega⟩
    rwa [show j + k + 1 = j + (k + 1) from by omega] at h1 ⊢
theorem PairsAt.done (h : PairsAt a b ms a.length last n) (hl : ms.length = a.length) : n = ((lcsL a b : Nat) : Int) := by
  obtain ⟨j, r, h1, h2, h3, h4, h5⟩ := h
  rw [show ms.drop a.length = [] from List.drop_of_length_le (by omega)] at h1
  have : r = 0 := h1.1
  omega
theorem PairsAt.bound (h : PairsAt a b ms i last n) : 0 ≤ n ∧ n ≤ ((lcsL a b : Nat) : Int) := by
  obtain ⟨j, r, h1, h2, h3, h4, h5⟩ := h
  omega
end

set_option maxRecDepth 100000 in
set_option maxHeartbeats 4000000 in
theorem law_LcsPairs (W : World) (A0 : Option Addr) (c0 : Nat) (l0 : List Int) (hr0 : Kd.C (Kd.int .i64) W A0 l0.length l0) (hc0 : l0.length ≤ c0) (g0 : l0.length * 8 ≤ 140737488351232 ∧ ∀ y ∈ l0, (Lit.int .i64 y).wf = true) (A1 : Option Addr) (c1 : Nat) (l1 : List Int) (hr1 : Kd.C (Kd.int .i64) W A1 l1.length l1) (hc1 : l1.length ≤ c1) (g1 : l1.length * 8 ≤ 140737488351232 ∧ ∀ y ∈ l1, (Lit.int .i64 y).wf = true) :
    Calls Try.prog 4 #[.slice A0 l0.length c0, .slice A1 l1.length c1] W fun e w' => e = .returned (.bool true) ∧ Below W.heap.size W w' := by
  have HR0 := Aside0.mk hr0
  have HC0 := Aside0.mk hc0
  have HR1 := Aside0.mk hr1
  have HC1 := Aside0.mk hc1
  clear hr0 hc0 hr1 hc1 g0 g1
  go_enter Try.func4, Try.ntmps4
  go_wp2_with fail
  refine (awake_calls _).mono ?_
  rintro e w1 ⟨rfl, hb⟩
  have HB1 := Aside0.mk hb
  clear hb
  by_cases hl : l0.length ≤ 40 ∧ l1.length ≤ 40
  · obtain ⟨hl0, hl1⟩ := hl
    have b1 : decide ((40 : Int) < (l0.length : Int)) = false := decide_eq_false (by omega)
    have b2 : decide (40 < l0.length) = false := decide_eq_false (by omega)
    have b3 : decide ((40 : Int) < (l1.length : Int)) = false := decide_eq_false (by omega)
    have b4 : decide (40 < l1.length) = false := decide_eq_false (by omega)
    go_wp2_with fail
    refine (lcs_New_pair A0 c0 l0 A1 c1 l1 _ (Kd.C_below HR0.out HB1.out) HC0.out (Kd.C_below HR1.out HB1.out) HC1.out (by omega) (by omega)).mono ?_
    rintro e w2 ⟨g, d, rfl, HG, HP, HB2⟩
    go_wp2_with fail
    refine (pair_Match g _ _ d _ HP.out).mono ?_
    rintro e w3 ⟨vm, rfl, ho, hp3, hg3⟩
    obtain ⟨Am, cm, rfl⟩ := Kd.R_slice ho
    have hml : (matchOf l0 l1).length = l0.length := matchFrom_length _ _ _
    have HML := Aside0.mk hml
    have hm := (Kd.R_reads' ho).2.2
    rw [hml] at hm ⊢
    have HM := Aside0.mk hm
    have HP3 := Aside0.mk hp3
    have HB3 : Aside0 (Below W.heap.size W w3) := ⟨below_grown (below_far HB1.out HB2.out) hg3 (Nat.le_trans HB1.out.size HG.out) (below_far HB1.out HB2.out).size⟩
    clear ho hp3 hg3 hm hml
    have hne : ((l0.length : Int) != (l0.length : Int)) = false := by simp
    have HL := lcsL_le_left l0 l1
    go_wp2_with fail
    go_loopw [9, 10, 11] (fun s1 s2 s3 wx => ∃ (i : Nat) (last n : Int), s1 = .int .i64 last ∧ s2 = .int .i64 n ∧ s3 = .int .i64 i ∧ i ≤ l0.length ∧ Aside0 (PairsAt l0 l1 (matchOf l0 l1) i last n) ∧ Aside0 (Below w3.heap.size w3 wx)) (fun _ _ s3 _ => l0.length - (intOf s3).toNat)
    case atStart => exact ⟨0, -1, 0, rfl, rfl, rfl, Nat.zero_le _, ⟨PairsAt.start⟩, ⟨Below.refl _ _⟩⟩
    case round =>
      obtain ⟨i, last, n, rfl, rfl, rfl, hi, HQ, HW⟩ := hrel
      obtain ⟨hn0, hn1⟩ := HQ.out.bound
      by_cases hi' : i < l0.length
      · have d1 : decide ((i : Int) < (l0.length : Int)) = true := decide_eq_true (by omega)
        have d2 : decide (i < l0.length) = true := decide_eq_true hi'
        obtain ⟨x, hx⟩ : ∃ x, (matchOf l0 l1)[i]? = some x := ⟨_, List.getElem?_eq_getElem (by rw [HML.out]; exact hi')⟩
        obtain ⟨am, rfl, km⟩ := elem_cell (xs := matchOf l0 l1) (i := i) (by rw [HML.out]; exact Kd.C_below HM.out HW.out) hx
        rcases HQ.out.step hi' hx with ⟨rfl, hq⟩ | ⟨q, y, rfl, hlast, hya, hyb, hq⟩
        · have HQ2 := Aside0.mk hq
          clear hq hx HQ
          have z : ((-1 : Int) == -1) = true := rfl
          go_wp2
          go_roundw
          case measure => simp [intOf]; omega
          case rel => exact ⟨i + 1, last, n, rfl, rfl, by simp, by omega, HQ2, HW⟩
        · have HQ2 := Aside0.mk hq
          obtain ⟨aa, rfl, ka⟩ := elem_cell (Kd.C_below (Kd.C_below HR0.out HB3.out) (HW.out)) hya
          obtain ⟨ab, rfl, kb⟩ := elem_cell (Kd.C_below (Kd.C_below HR1.out HB3.out) (HW.out)) hyb
          have hqb : q < l1.length := (List.getElem?_eq_some_iff.1 hyb).1
          clear hq hx HQ hya hyb
          have z : ((q : Int) == -1) = false := by simp
          have z1 : decide ((q : Int) ≤ last) = false := decide_eq_false (by omega)
          have z2 : decide ((l1.length : Int) ≤ (q : Int)) = false := decide_eq_false (by omega)
          have z2' : decide (l1.length ≤ q) = false := decide_eq_false (by omega)
          have z3 : (y != y) = false := by simp
          have d3 : decide ((q : Int) < (l1.length : Int)) = true := decide_eq_true (by omega)
          have d4 : decide (q < l1.length) = true := decide_eq_true hqb
          go_wp2
          go_quiet (fail)
          obtain ⟨wd, hwd⟩ : ∃ wd, wd = wr.drewN nq := ⟨_, rfl⟩
          rw [← hwd]
          have km2 := cellD hwd.symm km
          have HWd : Aside0 (Below w3.heap.size w3 wd) := by rw [hwd]; exact ⟨HW.out.trans (pw_below_drewN (Below.refl _ _) nq)⟩
          clear km ka kb hwd HW
          go_wp2
          go_roundw
          case measure => simp [intOf]; omega
          case rel => exact ⟨i + 1, (q : Int), n + 1, rfl, by simp, by simp, by omega, HQ2, HWd⟩
      · have d1 : decide ((i : Int) < (l0.length : Int)) = false := decide_eq_false (by omega)
        have d2 : decide (i < l0.length) = false := decide_eq_false hi'
        obtain rfl : i = l0.length := by omega
        have hn := HQ.out.done HML.out
        subst hn
        go_wp2_with fail
        refine (pair_Len g _ _ 1 _ (HP3.out.below HW.out)).mono ?_
        rintro e w6 ⟨rfl, hp6, hg6⟩
        have HB6 : Aside0 (Below W.heap.size W w6) := ⟨below_grown (below_far HB3.out HW.out) hg6 (Nat.le_trans HB1.out.size HG.out) (below_far HB3.out HW.out).size⟩
        clear hp6 hg6
        have hq : ((lcsL l0 l1 : Int) == (lcsL l0 l1 : Int)) = true := beq_self_eq_true _
        go_wp2
        go_ret
        exact ⟨rfl, HB6.out⟩
  · by_cases h0 : 40 < l0.length
    · have b1 : decide ((40 : Int) < (l0.length : Int)) = true := decide_eq_true (by omega)
      have b2 : decide (40 < l0.length) = true := decide_eq_true (by omega)
      clear hl
      go_wp2
      go_ret
      exact ⟨rfl, HB1.out⟩
    · have b1 : decide ((40 : Int) < (l0.length : Int)) = false := decide_eq_false (by omega)
      have b2 : decide (40 < l0.length) = false := decide_eq_false (by omega)
      have b3 : decide ((40 : Int) < (l1.length : Int)) = true := decide_eq_true (by omega)
      have b4 : decide (40 < l1.length) = true := decide_eq_true (by omega)
      clear hl
      go_wp2
      go_ret
      exact ⟨rfl, HB1.out⟩
end Go.Proofs.Ytkakcefekabmhaa.X
