/-
  sennitlaw03.LcsGreatest: by hand.
-/
import Derived.Test.YtkakcefekabmhaaXLcsB
import Derived.Deep.Slices
namespace Go.Proofs.Ytkakcefekabmhaa.X
open Go.RowKit Go.Proofs.YtkakcefekabmhaaW.PrintWords Go.Proofs.YtkakcefekabmhaaW.PrintLast Go.Proofs.YtkakcefekabmhaaW.PrintMore
set_option linter.unusedVariables false
set_option linter.unusedSimpArgs false

/-- What was taken so far stands in both. -/
def GreatAt (a b : List Int) (i j : Nat) (n : Int) : Prop := ∃ s : List Int, s.Sublist (a.take i) ∧ s.Sublist (b.take j) ∧ (s.length : Int) = n
section
variable {a b : List Int} {i j : Nat} {n : Int}
theorem GreatAt.start : GreatAt a b 0 0 0 := ⟨[], List.nil_sublist _, List.nil_sublist _, rfl⟩
theorem take_up {l : List Int} {i x : Nat} (h : i ≤ x) : (l.take i).Sublist (l.take x) := by
  rw [show l.take i = (l.take x).take i by rw [List.take_take, Nat.min_eq_left h]]
  exact List.take_sublist _ _
theorem take_one {l : List Int} {x : Nat} {y : Int} (h : l[x]? = some y) : l.take (x + 1) = l.take x ++ [y] := by
  obtain ⟨hl, rfl⟩ := List.getElem?_eq_some_iff.1 h
  exact (List.take_append_getElem hl).symm
theorem GreatAt.step (h : GreatAt a b i j n) {x y : Nat} {v : Int} (hx : i ≤ x) (hy : j ≤ y) (ha : a[x]? = some v) (hb : b[y]? = some v) : GreatAt a b (x + 1) (y + 1) (n + 1) := by
  obtain ⟨s, h1, h2, h3⟩ := h
  refine ⟨s ++ [v], ?_, ?_, by simp; omega⟩
  · rw [take_one ha]
    exact List.Sublist.append (h1.trans (take_up hx)) (List.Sublist.refl _)
  · rw [take_one hb]
    exact List.Sublist.append (h2.trans (take_up hy)) (List.Sublist.refl _)
theorem GreatAt.le (h : GreatAt a b i j n) : 0 ≤ n ∧ n ≤ ((lcsL a b : Nat) : Int) := by
  obtain ⟨s, h1, h2, h3⟩ := h
  have := lcsL_le a b s (h1.trans (List.take_sublist _ _)) (h2.trans (List.take_sublist _ _))
  omega
end
theorem w64_u8 {m : Nat} (h : m < 256) : wrap64 (m : Int) = (m : Int) ∧ IntKind.i64.wrap (m : Int) = (m : Int) := ⟨w64 (by omega) (by omega), wi64 (by omega) (by omega)⟩
theorem pair_cells {k : IntKind} {w : World} {A : Option Addr} {l : List (Int × Int)} (h : Kd.C (Kd.pair (Kd.int k) (Kd.int k)) w A l.length l) {i : Nat} {x y : Int} (hx : l[i]? = some (x, y)) : ∃ ad, A = some ad ∧ w.cell? (ad.add (i * 2)) = some (.int k x) ∧ w.cell? (ad.add (i * 2 + 1)) = some (.int k y) := by
  have hi := (List.getElem?_eq_some_iff.1 hx).1
  obtain ⟨ad, e, hc⟩ := h.2.2 (by omega)
  obtain ⟨c, h1, ⟨ca, cb, rfl, k1, k2⟩, h3⟩ := hc i _ hx
  obtain rfl : ca = [.int k x] := k1
  obtain rfl : cb = [.int k y] := k2
  exact ⟨ad, e, h3 0 _ rfl, h3 1 _ rfl⟩

set_option maxRecDepth 100000 in
set_option maxHeartbeats 4000000 in
theorem law_LcsGreatest (W : World) (A0 : Option Addr) (c0 : Nat) (l0 : List Int) (hr0 : Kd.C (Kd.int .i64) W A0 l0.length l0) (hc0 : l0.length ≤ c0) (g0 : l0.length * 8 ≤ 140737488351232 ∧ ∀ y ∈ l0, (Lit.int .i64 y).wf = true) (A1 : Option Addr) (c1 : Nat) (l1 : List Int) (hr1 : Kd.C (Kd.int .i64) W A1 l1.length l1) (hc1 : l1.length ≤ c1) (g1 : l1.length * 8 ≤ 140737488351232 ∧ ∀ y ∈ l1, (Lit.int .i64 y).wf = true) (A2 : Option Addr) (c2 : Nat) (l2 : List (Int × Int)) (hr2 : Kd.C (Kd.pair (Kd.int .u8) (Kd.int .u8)) W A2 l2.length l2) (hc2 : l2.length ≤ c2) (g2 : l2.length * 2 ≤ 140737488351232 ∧ ∀ y ∈ l2, ((Lit.int .u8 y.1).wf = true) ∧ ((Lit.int .u8 y.2).wf = true)) :
    Calls Try.prog 5 #[.slice A0 l0.length c0, .slice A1 l1.length c1, .slice A2 l2.length c2] W fun e w' => e = .returned (.bool true) ∧ Below W.heap.size W w' := by
  have HR0 := Aside0.mk hr0
  have HC0 := Aside0.mk hc0
  have HR1 := Aside0.mk hr1
  have HC1 := Aside0.mk hc1
  have HR2 := Aside0.mk hr2
  have G2 := Aside0.mk g2.2
  clear hr0 hc0 hr1 hc1 g0 g1 hr2 hc2 g2
  go_enter Try.func5, Try.ntmps5
  go_wp2_with fail
  refine (awake_calls _).mono ?_
  rintro e w1 ⟨rfl, hb⟩
  have HB1 := Aside0.mk hb
  clear hb
  by_cases hl : l0.length ≤ 40 ∧ l1.length ≤ 40 ∧ l2.length ≤ 100
  · obtain ⟨hl0, hl1, hl2⟩ := hl
    have b1 : decide ((40 : Int) < (l0.length : Int)) = false := decide_eq_false (by omega)
    have b2 : decide (40 < l0.length) = false := decide_eq_false (by omega)
    have b3 : decide ((40 : Int) < (l1.length : Int)) = false := decide_eq_false (by omega)
    have b4 : decide (40 < l1.length) = false := decide_eq_false (by omega)
    have b5 : decide ((100 : Int) < (l2.length : Int)) = false := decide_eq_false (by omega)
    have b6 : decide (100 < l2.length) = false := decide_eq_false (by omega)
    have HL := lcsL_le_left l0 l1
    go_wp2_with fail
    go_loopw [8, 9, 10, 11] (fun s1 s2 s3 s4 wx => ∃ (i j : Nat) (n : Int) (k : Nat), s1 = .int .i64 i ∧ s2 = .int .i64 j ∧ s3 = .int .i64 n ∧ s4 = .int .i64 k ∧ i ≤ l0.length ∧ j ≤ l1.length ∧ k ≤ l2.length ∧ Aside0 (GreatAt l0 l1 i j n) ∧ Aside0 (Below w1.heap.size w1 wx)) (fun _ _ _ s4 _ => l2.length - (intOf s4).toNat)
    case atStart => exact ⟨0, 0, 0, 0, rfl, rfl, rfl, rfl, Nat.zero_le _, Nat.zero_le _, Nat.zero_le _, ⟨GreatAt.start⟩, ⟨Below.refl _ _⟩⟩
    case round =>
      obtain ⟨i, j, n, k, rfl, rfl, rfl, rfl, hi, hj, hk, HQ, HW⟩ := hrel
      obtain ⟨hn0, hn1⟩ := HQ.out.le
      by_cases hk' : k < l2.length
      · have d1 : decide ((k : Int) < (l2.length : Int)) = true := decide_eq_true (by omega)
        have d2 : decide (k < l2.length) = true := decide_eq_true hk'
        obtain ⟨x, y, hx⟩ : ∃ x y, l2[k]? = some (x, y) := ⟨_, _, List.getElem?_eq_getElem hk'⟩
        obtain ⟨g1, g2⟩ := G2.out _ (List.mem_of_getElem? hx)
        obtain ⟨x, rfl, hxm⟩ : ∃ m : Nat, x = (m : Int) ∧ m < 256 := by
          have h := wf_u8 g1
          exact ⟨x.toNat, by omega, by omega⟩
        obtain ⟨y, rfl, hym⟩ : ∃ m : Nat, y = (m : Int) ∧ m < 256 := by
          have h := wf_u8 g2
          exact ⟨y.toNat, by omega, by omega⟩
        obtain ⟨ap, rfl, kx, ky⟩ := pair_cells (Kd.C_below (Kd.C_below HR2.out HB1.out) HW.out) hx
        have ky2 : wr.cell? ⟨(ap.add (k * 2)).block, (ap.add (k * 2)).off + 1, none⟩ = some (.int .u8 y) := by rw [← Go.Deep.add_add] at ky; exact ky
        clear g1 g2 hx
        by_cases h1 : i ≤ x
        · have e1 : decide ((i : Int) ≤ (x : Int)) = true := decide_eq_true (by omega)
          have e1' : decide (i ≤ x) = true := decide_eq_true (by omega)
          by_cases h2 : j ≤ y
          · have e2 : decide ((j : Int) ≤ (y : Int)) = true := decide_eq_true (by omega)
            have e2' : decide (j ≤ y) = true := decide_eq_true (by omega)
            by_cases h3 : x < l0.length
            · have e3 : decide ((x : Int) < (l0.length : Int)) = true := decide_eq_true (by omega)
              have e3' : decide (x < l0.length) = true := decide_eq_true (by omega)
              by_cases h4 : y < l1.length
              · have e4 : decide ((y : Int) < (l1.length : Int)) = true := decide_eq_true (by omega)
                have e4' : decide (y < l1.length) = true := decide_eq_true (by omega)
                obtain ⟨va, hva⟩ : ∃ v, l0[x]? = some v := ⟨_, List.getElem?_eq_getElem h3⟩
                obtain ⟨vb, hvb⟩ : ∃ v, l1[y]? = some v := ⟨_, List.getElem?_eq_getElem h4⟩
                obtain ⟨aa, rfl, ka⟩ := elem_cell (Kd.C_below (Kd.C_below HR0.out HB1.out) (HW.out)) hva
                obtain ⟨ab, rfl, kb⟩ := elem_cell (Kd.C_below (Kd.C_below HR1.out HB1.out) (HW.out)) hvb
                have HVA := Aside0.mk hva
                have HVB := Aside0.mk hvb
                clear hva hvb
                by_cases h5 : va = vb
                · have e5 : (va == vb) = true := by simp [h5]
                  subst h5
                  have HQ2 := Aside0.mk (HQ.out.step h1 h2 HVA.out HVB.out)
                  obtain ⟨sx, sx'⟩ := w64_u8 hxm
                  obtain ⟨sy, sy'⟩ := w64_u8 hym
                  go_wp2
                  go_quiet (fail)
                  clear sx sx' sy sy'
                  obtain ⟨wd, hwd⟩ : ∃ wd, wd = wr.drewN nq := ⟨_, rfl⟩
                  rw [← hwd]
                  have HWd : Aside0 (Below w1.heap.size w1 wd) := by rw [hwd]; exact ⟨HW.out.trans (pw_below_drewN (Below.refl _ _) nq)⟩
                  clear hwd HW
                  go_wp2
                  go_roundw
                  case measure => simp [intOf]; omega
                  case rel => exact ⟨x + 1, y + 1, n + 1, k + 1, by simp, by simp, rfl, by simp, by omega, by omega, by omega, HQ2, HWd⟩
                · have e5 : (va == vb) = false := by simp [h5]
                  obtain ⟨sx, sx'⟩ := w64_u8 hxm
                  obtain ⟨sy, sy'⟩ := w64_u8 hym
                  go_wp2
                  go_quiet (fail)
                  clear sx sx' sy sy'
                  obtain ⟨wd, hwd⟩ : ∃ wd, wd = wr.drewN nq := ⟨_, rfl⟩
                  rw [← hwd]
                  have HWd : Aside0 (Below w1.heap.size w1 wd) := by rw [hwd]; exact ⟨HW.out.trans (pw_below_drewN (Below.refl _ _) nq)⟩
                  clear hwd HW
                  go_wp2
                  go_roundw
                  case measure => simp [intOf]; omega
                  case rel => exact ⟨i, j, n, k + 1, rfl, rfl, rfl, by simp, hi, hj, by omega, HQ, HWd⟩
              · have e4 : decide ((y : Int) < (l1.length : Int)) = false := decide_eq_false (by omega)
                have e4' : decide (y < l1.length) = false := decide_eq_false (by omega)
                obtain ⟨sx, sx'⟩ := w64_u8 hxm
                obtain ⟨sy, sy'⟩ := w64_u8 hym
                go_wp2
                go_quiet (fail)
                clear sx sx' sy sy'
                obtain ⟨wd, hwd⟩ : ∃ wd, wd = wr.drewN nq := ⟨_, rfl⟩
                rw [← hwd]
                have HWd : Aside0 (Below w1.heap.size w1 wd) := by rw [hwd]; exact ⟨HW.out.trans (pw_below_drewN (Below.refl _ _) nq)⟩
                clear hwd HW
                go_wp2
                go_roundw
                case measure => simp [intOf]; omega
                case rel => exact ⟨i, j, n, k + 1, rfl, rfl, rfl, by simp, hi, hj, by omega, HQ, HWd⟩
            · have e3 : decide ((x : Int) < (l0.length : Int)) = false := decide_eq_false (by omega)
              have e3' : decide (x < l0.length) = false := decide_eq_false (by omega)
              obtain ⟨sx, sx'⟩ := w64_u8 hxm
              obtain ⟨sy, sy'⟩ := w64_u8 hym
              go_wp2
              go_quiet (fail)
              clear sx sx' sy sy'
              obtain ⟨wd, hwd⟩ : ∃ wd, wd = wr.drewN nq := ⟨_, rfl⟩
              rw [← hwd]
              have HWd : Aside0 (Below w1.heap.size w1 wd) := by rw [hwd]; exact ⟨HW.out.trans (pw_below_drewN (Below.refl _ _) nq)⟩
              clear hwd HW
              go_wp2
              go_roundw
              case measure => simp [intOf]; omega
              case rel => exact ⟨i, j, n, k + 1, rfl, rfl, rfl, by simp, hi, hj, by omega, HQ, HWd⟩
          · have e2 : decide ((j : Int) ≤ (y : Int)) = false := decide_eq_false (by omega)
            have e2' : decide (j ≤ y) = false := decide_eq_false (by omega)
            obtain ⟨sx, sx'⟩ := w64_u8 hxm
            obtain ⟨sy, sy'⟩ := w64_u8 hym
            go_wp2
            go_quiet (fail)
            clear sx sx' sy sy'
            obtain ⟨wd, hwd⟩ : ∃ wd, wd = wr.drewN nq := ⟨_, rfl⟩
            rw [← hwd]
            have HWd : Aside0 (Below w1.heap.size w1 wd) := by rw [hwd]; exact ⟨HW.out.trans (pw_below_drewN (Below.refl _ _) nq)⟩
            clear hwd HW
            go_wp2
            go_roundw
            case measure => simp [intOf]; omega
            case rel => exact ⟨i, j, n, k + 1, rfl, rfl, rfl, by simp, hi, hj, by omega, HQ, HWd⟩
        · have e1 : decide ((i : Int) ≤ (x : Int)) = false := decide_eq_false (by omega)
          have e1' : decide (i ≤ x) = false := decide_eq_false (by omega)
          obtain ⟨sx, sx'⟩ := w64_u8 hxm
          obtain ⟨sy, sy'⟩ := w64_u8 hym
          go_wp2
          go_quiet (fail)
          clear sx sx' sy sy'
          obtain ⟨wd, hwd⟩ : ∃ wd, wd = wr.drewN nq := ⟨_, rfl⟩
          rw [← hwd]
          have HWd : Aside0 (Below w1.heap.size w1 wd) := by rw [hwd]; exact ⟨HW.out.trans (pw_below_drewN (Below.refl _ _) nq)⟩
          clear hwd HW
          go_wp2
          go_roundw
          case measure => simp [intOf]; omega
          case rel => exact ⟨i, j, n, k + 1, rfl, rfl, rfl, by simp, hi, hj, by omega, HQ, HWd⟩
      · have d1 : decide ((k : Int) < (l2.length : Int)) = false := decide_eq_false (by omega)
        have d2 : decide (k < l2.length) = false := decide_eq_false hk'
        have t1 : decide (n ≤ ((lcsL l0 l1 : Nat) : Int)) = true := decide_eq_true hn1
        have HBw : Aside0 (Below W.heap.size W wr) := ⟨below_far HB1.out HW.out⟩
        go_wp2_with fail
        refine (long_short A0 c0 l0 A1 c1 l1 _ (Kd.C_below HR0.out HBw.out) HC0.out (Kd.C_below HR1.out HBw.out) HC1.out (by omega) (by omega) rfl).mono ?_
        rintro e w5 ⟨rfl, hb⟩
        have HB5 : Aside0 (Below W.heap.size W w5) := ⟨below_far HBw.out hb.out⟩
        clear hb
        go_wp2
        go_ret
        exact ⟨rfl, HB5.out⟩
  · by_cases h0 : 40 < l0.length
    · have b1 : decide ((40 : Int) < (l0.length : Int)) = true := decide_eq_true (by omega)
      have b2 : decide (40 < l0.length) = true := decide_eq_true (by omega)
      clear hl
      go_wp2
      go_ret
      exact ⟨rfl, HB1.out⟩
    · have b1 : decide ((40 : Int) < (l0.length : Int)) = false := decide_eq_false (by omega)
      have b2 : decide (40 < l0.length) = false := decide_eq_false (by omega)
      by_cases h1 : 40 < l1.length
      · have b3 : decide ((40 : Int) < (l1.length : Int)) = true := decide_eq_true (by omega)
        have b4 : decide (40 < l1.length) = true := decide_eq_true (by omega)
        clear hl
        go_wp2
        go_ret
        exact ⟨rfl, HB1.out⟩
      · have b3 : decide ((40 : Int) < (l1.length : Int)) = false := decide_eq_false (by omega)
        have b4 : decide (40 < l1.length) = false := decide_eq_false (by omega)
        have b5 : decide ((100 : Int) < (l2.length : Int)) = true := decide_eq_true (by omega)
        have b6 : decide (100 < l2.length) = true := decide_eq_true (by omega)
        clear hl
        go_wp2
        go_ret
        exact ⟨rfl, HB1.out⟩
end Go.Proofs.Ytkakcefekabmhaa.X
