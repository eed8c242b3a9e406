/-
  (*lcs.Pair).Match: by hand.
-/
import Derived.Test.YtnlekganlliikaaXLcs6
namespace Go.Proofs.Ytnlekganlliikaa.X
open Go.RowKit Go.Proofs.YtnlekganlliikaaW.PrintWords Go.Proofs.YtnlekganlliikaaW.PrintLast Go.Proofs.YtnlekganlliikaaW.PrintMore
set_option linter.unusedVariables false
set_option linter.unusedSimpArgs false

/-- A pair that is nil. -/
theorem pair_Match_nil (w : World) : Calls Try.prog 65 #[.pointer none] w fun e w' => e = .returned (.slice none 0 0) ∧ w' = w := by
  go_enter Try.func65, Try.ntmps65
  go_wp2_with fail
  refine (pair_Len_nil _).mono ?_
  rintro e w1 ⟨rfl, he⟩
  obtain rfl := he.symm
  clear he
  go_wp2_with fail
  go_ret
  exact ⟨rfl, rfl⟩

/-- What is written so far, the rest being -1. -/
def MatchAt (a b : List Int) (i j : Nat) (L : List Int) : Prop := ∃ P : List Int, P.length = i ∧ L = P ++ List.replicate (a.length - i) (-1) ∧ P ++ matchFrom (a.drop i) (b.drop j) j = matchOf a b
section
variable {a b L : List Int} {i j : Nat}
theorem MatchAt.start : MatchAt a b 0 0 (List.replicate a.length (-1)) := ⟨[], rfl, by simp, by simp [matchOf]⟩
theorem MatchAt.done (h : MatchAt a b i j L) (hi : i ≤ a.length) (hd : ¬ (i < a.length ∧ j < b.length)) : L = matchOf a b := by
  obtain ⟨P, h1, h2, h3⟩ := h
  rw [← h3, h2]
  congr 1
  by_cases hx : i < a.length
  · have : b.drop j = [] := List.drop_eq_nil_of_le (by omega)
    rw [this, matchFrom_rest]
    simp
  · have : a.drop i = [] := List.drop_eq_nil_of_le (by omega)
    rw [this, matchFrom_nil]
    simp; omega
theorem MatchAt.len (h : MatchAt a b i j L) (hi : i ≤ a.length) : L.length = a.length := by
  obtain ⟨P, h1, h2, h3⟩ := h
  rw [h2]; simp; omega
theorem step_cases (hi : i < a.length) (hj : j < b.length) :
    (stepAt (a.drop i) (b.drop j) = 0 ∧ matchFrom (a.drop i) (b.drop j) j = (j : Int) :: matchFrom (a.drop (i + 1)) (b.drop (j + 1)) (j + 1)) ∨
    (stepAt (a.drop i) (b.drop j) = 1 ∧ matchFrom (a.drop i) (b.drop j) j = -1 :: matchFrom (a.drop (i + 1)) (b.drop j) j) ∨
    (stepAt (a.drop i) (b.drop j) = 2 ∧ matchFrom (a.drop i) (b.drop j) j = matchFrom (a.drop i) (b.drop (j + 1)) (j + 1)) := by
  have ha := drop_cons' (List.getElem?_eq_getElem hi)
  have hb := drop_cons' (List.getElem?_eq_getElem hj)
  rw [ha, hb, matchFrom_cons, stepAt]
  by_cases e : a[i] = b[j]
  · exact .inl ⟨by rw [if_pos e], by rw [if_pos e]⟩
  · by_cases e2 : lcsL (a[i] :: a.drop (i + 1)) (b.drop (j + 1)) ≤ lcsL (a.drop (i + 1)) (b[j] :: b.drop (j + 1))
    · exact .inr (.inl ⟨by rw [if_neg e, if_pos e2], by rw [if_neg e, if_pos e2, ← hb]⟩)
    · exact .inr (.inr ⟨by rw [if_neg e, if_neg e2], by rw [if_neg e, if_neg e2, ← ha]⟩)
theorem MatchAt.same (h : MatchAt a b i j L) (hi : i < a.length) (e : matchFrom (a.drop i) (b.drop j) j = (j : Int) :: matchFrom (a.drop (i + 1)) (b.drop (j + 1)) (j + 1)) : MatchAt a b (i + 1) (j + 1) (L.set i j) := by
  obtain ⟨P, h1, h2, h3⟩ := h
  refine ⟨P ++ [(j : Int)], by simp [h1], ?_, by rw [← h3, e]; simp⟩
  subst h1
  rw [h2, List.set_append_right _ _ (Nat.le_refl _), Nat.sub_self]
  obtain ⟨r, hr⟩ : ∃ r, a.length - P.length = r + 1 := ⟨a.length - P.length - 1, by omega⟩
  rw [hr, show a.length - (P.length + 1) = r by omega]
  simp [List.replicate_succ]
theorem MatchAt.old (h : MatchAt a b i j L) (hi : i < a.length) (e : matchFrom (a.drop i) (b.drop j) j = -1 :: matchFrom (a.drop (i + 1)) (b.drop j) j) : MatchAt a b (i + 1) j L := by
  obtain ⟨P, h1, h2, h3⟩ := h
  refine ⟨P ++ [(-1 : Int)], by simp [h1], ?_, by rw [← h3, e]; simp⟩
  subst h1
  rw [h2]
  obtain ⟨r, hr⟩ : ∃ r, a.length - P.length = r + 1 := ⟨a.length - P.length - 1, by omega⟩
  rw [hr, show a.length - (P.length + 1) = r by omega]
  simp [List.replicate_succ]
theorem MatchAt.fresh (h : MatchAt a b i j L) (e : matchFrom (a.drop i) (b.drop j) j = matchFrom (a.drop i) (b.drop (j + 1)) (j + 1)) : MatchAt a b i (j + 1) L := by
  obtain ⟨P, h1, h2, h3⟩ := h
  exact ⟨P, h1, h2, by rw [← h3, e]⟩
theorem steps_get (hi : i < a.length) (hj : j < b.length) : (stepsOf a b)[i * b.length + j]? = some (stepAt (a.drop i) (b.drop j)) := by
  simp [stepsOf, place_lt hi hj, place_div hj]
end

theorem addr_add0 (g i : Nat) : (⟨g, 0, none⟩ : Addr).add i = ⟨g, i, none⟩ := by
  unfold Addr.add
  split <;> simp_all

theorem R_blk {k : IntKind} {W : World} {base e n c : Nat} {ok : Nat → Prop} {A : Option Addr} {L : List Int} (h : Kd.R (Kd.int k) e W base ok (.slice A n c) L) (hn : 0 < n) : ∃ gm cur, A = some ⟨gm, 0, none⟩ ∧ base ≤ gm ∧ W.heap[gm]? = some (.cells cur e (0, 0)) := by
  obtain ⟨_, inner, ho, _⟩ := h
  rcases ho.2 with ⟨hv, _⟩ | ⟨g, cap, cur, hv, hg, hh, _⟩
  · cases hv; omega
  · cases hv
    exact ⟨g, cur, rfl, hg, hh⟩

set_option maxRecDepth 100000 in
set_option maxHeartbeats 4000000 in
/-- Which is paired with which. -/
theorem pair_Match (g : Nat) (a b : List Int) (d : Int) (w : World) (h : PairIn w g a b d) :
    Calls Try.prog 65 #[.pointer (some ⟨g, 0, none⟩)] w fun e w' => ∃ v0_ : Value, e = .returned v0_ ∧ Kd.R (Kd.int .i64) 3 w' w.heap.size (fun _ => True) v0_ (matchOf a b) ∧ PairIn w' g a b 1 ∧ w.grownBy w' (some g) := by
  have H := Aside0.mk h
  clear h
  go_enter Try.func65, Try.ntmps65
  go_wp2_with fail
  refine (pair_Len g a b d _ H.out).mono ?_
  rintro e w1 ⟨rfl, q1, q2⟩
  have Q1 := Aside0.mk q1
  have Q2 := Aside0.mk q2
  clear q1 q2
  obtain ⟨Aa, ca, Ab, cb, st, long, h1, h2, h3, h4, h5, h6⟩ := Q1.out
  obtain ⟨e1, _⟩ | ⟨_, e2, As, cs, e3, h6⟩ := h6
  · cases e1
  subst e2; subst e3
  have H1 := Aside0.mk h1
  have H6 := Aside0.mk h6
  clear h1 h2 h3 h6
  have cA : (w1.alloc (.cells #[.int .i64 (-1)] 3)).cell? ⟨g, 0, none⟩ = some (.slice Aa a.length ca) := cell_alloc_of (cell_blk H1.out rfl) _
  obtain ⟨q, hq⟩ : ∃ q, ((lcsL a b : Int) == 0) = q := ⟨_, rfl⟩
  cases q
  all_goals
    go_wp2_with fail
    refine (slices_Repeat_one ⟨w1.heap.size, 0, none⟩ 1 (-1) a.length _ (by simp) h4).mono ?_
    rintro e w2 ⟨vm, rfl, ho, hb⟩
    obtain ⟨Am, cm, rfl⟩ := Kd.R_slice ho
    have HB : Aside0 (Below w1.heap.size w1 w2) := Aside0.mk ((below_alloc (Below.refl _ _) _).trans (hb.mono (by simp)))
    have HO : Aside0 (Kd.R (Kd.int .i64) 3 w2 w1.heap.size (fun _ => True) (.slice Am (List.replicate a.length (-1 : Int)).length cm) (List.replicate a.length (-1 : Int))) := Aside0.mk (Kd.R_lower ho (by simp))
    clear ho hb cA
    rw [List.length_replicate]
    go_wp2_with fail
    go_loopw [4, 5] (fun s1 s2 W => ∃ (i j : Nat) (L : List Int), s1 = .int .i64 i ∧ s2 = .int .i64 j ∧ i ≤ a.length ∧ j ≤ b.length ∧ Aside0 (MatchAt a b i j L) ∧ Aside0 (Kd.R (Kd.int .i64) 3 W w1.heap.size (fun _ => True) (.slice Am a.length cm) L) ∧ Aside0 (Below w1.heap.size w1 W)) (fun s1 s2 _ => a.length + b.length - (intOf s1).toNat - (intOf s2).toNat)
    case atStart => exact ⟨0, 0, _, rfl, rfl, Nat.zero_le _, Nat.zero_le _, ⟨MatchAt.start⟩, by rw [List.length_replicate] at HO; exact HO, HB⟩
    case round =>
      obtain ⟨i, j, L, rfl, rfl, hi, hj, HM, HL, HW⟩ := hrel
      clear HO HB
      have P1 := Aside0.mk ((HW.out.block g (blk_lt H1.out)).trans H1.out)
      have cA : wr.cell? ⟨g, 0, none⟩ = some (.slice Aa a.length ca) := cell_blk P1.out rfl
      have cB : wr.cell? ⟨g, 1, none⟩ = some (.slice Ab b.length cb) := cell_blk P1.out rfl
      have cS : wr.cell? ⟨g, 5, none⟩ = some (.slice As (a.length * b.length) cs) := cell_blk P1.out rfl
      by_cases hlt : i < a.length ∧ j < b.length
      · obtain ⟨hi', hj'⟩ := hlt
        have b1 : decide ((i : Int) < (a.length : Int)) = true := decide_eq_true (by omega)
        have b2 : decide (i < a.length) = true := decide_eq_true (by omega)
        have b3 : decide ((j : Int) < (b.length : Int)) = true := decide_eq_true (by omega)
        have b4 : decide (j < b.length) = true := decide_eq_true (by omega)
        have hst := step_cases hi' hj'
        have hsg := steps_get hi' hj'
        obtain ⟨sv, hsv⟩ : ∃ sv, stepAt (a.drop i) (b.drop j) = sv := ⟨_, rfl⟩
        rw [hsv] at hst hsg
        have HST := Aside0.mk hst
        clear hst hsv
        have hij := place_lt hi' hj'
        obtain ⟨ads, rfl, k1⟩ : ∃ ad, As = some ad ∧ wr.cell? (ad.add (i * b.length + j)) = some (.int .u8 sv) := by
          obtain ⟨ad, e, hc⟩ := Kd.at_int (Kd.F_now (Kd.F_below H6.out HW.out)) ((i * b.length + j : Nat) : Int) (by omega) (by omega)
          refine ⟨ad, e, ?_⟩
          rw [Int.toNat_natCast] at hc
          rw [hc, rd, List.getD_eq_getElem?_getD, Int.toNat_natCast, hsg]
          rfl
        have p1 : (i : Int) * (b.length : Int) + (j : Int) < (a.length : Int) * (b.length : Int) := by
          rw [← Int.natCast_mul, ← Int.natCast_mul]; omega
        have p0 : 0 ≤ (i : Int) * (b.length : Int) := by rw [← Int.natCast_mul]; omega
        have p2 : ((i : Int) * (b.length : Int) + (j : Int)).toNat = i * b.length + j := by rw [← Int.natCast_mul]; omega
        have pm := Nat.mul_le_mul h4 h5
        have w1_ : IntKind.i64.wrap ((i : Int) * (b.length : Int)) = (i : Int) * (b.length : Int) := IntWalk.i64_in _ (by rw [← Int.natCast_mul] at p1 ⊢; rw [← Int.natCast_mul] at p1; omega)
        have w2_ : IntKind.i64.wrap ((i : Int) * (b.length : Int) + (j : Int)) = (i : Int) * (b.length : Int) + (j : Int) := IntWalk.i64_in _ (by rw [← Int.natCast_mul] at p1 ⊢; rw [← Int.natCast_mul] at p1; omega)
        clear hsg hij pm
        go_wp2
        go_quiet (fail)
        obtain ⟨wd, hwd⟩ : ∃ wd, wd = wr.drewN nq := ⟨_, rfl⟩
        rw [← hwd]
        have HLd := Aside0.mk (Kd.R_drewN HL.out nq)
        have HWd : Aside0 (Below w1.heap.size w1 (wr.drewN nq)) := Aside0.mk ((HW.out).trans (pw_below_drewN (Below.refl _ _) nq))
        rw [← hwd] at HLd HWd
        clear hwd HL HW P1 cA cB cS k1 b1 b2 b3 b4 p0 p1 p2 w1_ w2_
        rcases HST.out with ⟨e1, e2⟩ | ⟨e1, e2⟩ | ⟨e1, e2⟩
        · subst e1
          have E2 := Aside0.mk e2
          clear e2 HST
          obtain ⟨gm, cur, rfl, hgm, hbm⟩ := R_blk HLd.out (by omega)
          have cm_ : wd.cell? ⟨gm, i, none⟩ = some (.int .i64 (rd L i)) := by
            obtain ⟨_, _, hC⟩ := Kd.R_reads' HLd.out
            obtain ⟨ad, e, hc⟩ := Kd.at_int hC (i : Int) (by omega) (by rw [HM.out.len hi]; omega)
            cases e
            rw [Int.toNat_natCast] at hc
            rwa [addr_add0] at hc
          have zm_ : wd.frozen? ⟨gm, i, none⟩ = false := blk_frozen hbm _
          have bi : decide ((i : Int) < (a.length : Int)) = true := decide_eq_true (by omega)
          have bi2 : decide (i < a.length) = true := decide_eq_true (by omega)
          clear hbm
          go_wp2
          go_roundw
          case measure => simp [intOf]; omega
          case rel =>
            refine ⟨i + 1, j + 1, L.set i j, by simp, by simp, by omega, by omega, ⟨HM.out.same hi' E2.out⟩, ⟨?_⟩, ⟨HWd.out.setCell hgm _⟩⟩
            have h := Kd.R_putn HLd.out (i : Int) (j : Int)
            rwa [Int.toNat_natCast] at h
        · subst e1
          have E2 := Aside0.mk e2
          clear e2 HST
          go_wp2
          go_roundw
          case measure => simp [intOf]; omega
          case rel => exact ⟨i + 1, j, L, by simp, rfl, by omega, by omega, ⟨HM.out.old hi' E2.out⟩, HLd, HWd⟩
        · subst e1
          have E2 := Aside0.mk e2
          clear e2 HST
          go_wp2
          go_roundw
          case measure => simp [intOf]; omega
          case rel => exact ⟨i, j + 1, L, rfl, by simp, by omega, by omega, ⟨HM.out.fresh E2.out⟩, HLd, HWd⟩
      · have Hlt := Aside0.mk hlt
        by_cases hi' : i < a.length
        · have b1 : decide ((i : Int) < (a.length : Int)) = true := decide_eq_true (by omega)
          have b2 : decide (i < a.length) = true := decide_eq_true (by omega)
          have b3 : decide ((j : Int) < (b.length : Int)) = false := decide_eq_false (by omega)
          have b4 : decide (j < b.length) = false := decide_eq_false (by omega)
          clear hlt
          go_wp2
          go_ret
          have hL := HM.out.done hi Hlt.out
          subst hL
          have hs := Q2.out.size
          refine ⟨_, rfl, Kd.R_lower HL.out hs, Q1.out.below HW.out, grown_then Q2.out (grown_of_below HW.out _)⟩
        · have b1 : decide ((i : Int) < (a.length : Int)) = false := decide_eq_false (by omega)
          have b2 : decide (i < a.length) = false := decide_eq_false (by omega)
          clear hlt
          go_wp2
          go_ret
          have hL := HM.out.done hi Hlt.out
          subst hL
          have hs := Q2.out.size
          refine ⟨_, rfl, Kd.R_lower HL.out hs, Q1.out.below HW.out, grown_then Q2.out (grown_of_below HW.out _)⟩
end Go.Proofs.Ytnlekganlliikaa.X
