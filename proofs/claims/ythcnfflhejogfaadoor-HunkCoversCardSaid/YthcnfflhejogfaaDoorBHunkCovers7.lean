/-
  Parts of one proof, one behind the other: XKn1, XLn3, XHr6, XHr7, XHwC.
-/
import Derived.Test.YthcnfflhejogfaaDoorBHunkCovers6
-- part XKn1
namespace Go.Proofs.YthcnfflhejogfaaDoor.X
open Go.RowKit Go.Proofs.YthcnfflhejogfaaDoorW.PrintWords Go.Proofs.YthcnfflhejogfaaDoorW.PrintLast Go.Proofs.YthcnfflhejogfaaDoorW.PrintMore
attribute [local go_sem] max2_int min2_int max_two min_two max_three min_three max_four min_four   -- for this text's walks alone
set_option linter.unusedVariables false
set_option linter.unusedSimpArgs false
def sennitlaw21_awake.f (k : Nat)  : Option (Bool) := (some (([(⟨(⟨#[32, 32]⟩ : ByteArray), (⟨#[97, 10]⟩ : ByteArray)⟩ : S57), (⟨(⟨#[43, 32]⟩ : ByteArray), (⟨#[98, 10]⟩ : ByteArray)⟩ : S57), (⟨(⟨#[32, 32]⟩ : ByteArray), (⟨#[99, 10]⟩ : ByteArray)⟩ : S57), (⟨(⟨#[32, 32]⟩ : ByteArray), (⟨#[100, 10]⟩ : ByteArray)⟩ : S57)] : List (S57)) : List (S57))).bind fun y101 => ((hunk_Hunks.f y101 1 false).bind fun bt104 => ((hunk_Hunks.f y101 1 true).bind fun bt108 => ((hunk_Hunks.f y101 (-1) false).bind fun bt112 => (if bt104.2 = 0 then (if bt108.2 = 0 then (if bt112.2 = 1 then (if (bt104.1.length : Int) = 1 then (if 0 < (bt104.1.length : Int) then (if (((rd_T48 bt104.1 0).f2).length : Int) = 3 then (if ((rd_T48 bt104.1 0).f1.f1) = 3 then (if 0 < (((rd_T48 bt104.1 0).f0).length : Int) then (if ((rd_T45 ((rd_T48 bt104.1 0).f0) 0).f1) = 2 then (if (bt108.1.length : Int) = 0 then (if 1 ≤ 2 then (if 2 ≤ (y101.length : Int) then ((hunk_Dull.f ((y101.take 2).drop 1)).bind fun t125 => (if t125 = true then ((hunk_Groups.f y101).bind fun t126 => (if (t126.length : Int) = 1 then ((hunk_May.f k y101).bind fun t129 => (some t129)) else (some false))) else (some false))) else (none)) else (none)) else (some false)) else (some false)) else (none)) else (some false)) else (some false)) else (none)) else (some false)) else (some false)) else (some false)) else (some false)))))
theorem sennitlaw21_awake.mono : ∀ k, LeO (sennitlaw21_awake.f k ) (sennitlaw21_awake.f (k + 1) ) := by
  intro  k
  unfold sennitlaw21_awake.f
  repeat' first
      | (with_reducible exact hunk_May.mono _ _)
      | (with_reducible exact LeO.refl _)
      | (with_reducible exact LeO.none _)
      | (with_reducible refine LeO.ite ?_ ?_)
      | (with_reducible refine LeO.bind ?_ (fun _ => ?_))
      | exact hunk_May.mono _ _
      | exact LeO.none _
      | refine LeO.ite ?_ ?_
      | refine LeO.bind ?_ (fun _ => ?_)
theorem sennitlaw21_awake.at100 : sennitlaw21_awake.f 100 = some true := by decide +kernel
theorem sennitlaw21_awake.up : ∀ n, sennitlaw21_awake.f (100 + n) = some true
  | 0 => sennitlaw21_awake.at100
  | n + 1 => sennitlaw21_awake.mono (100 + n) _ (sennitlaw21_awake.up n)
theorem sennitlaw21_awake.true_ {k : Nat} {r : Bool} (h : sennitlaw21_awake.f k  = some r) : r = true := by
  have e : ∀ n, sennitlaw21_awake.f (k + n) = some r := fun n => by
    induction n with
    | zero => exact h
    | succ n ih => exact sennitlaw21_awake.mono (k + n) _ ih
  have h1 := e 100
  rw [Nat.add_comm, sennitlaw21_awake.up k] at h1
  exact (Option.some.inj h1).symm
theorem sennitlaw21_awake.gives : ∃ K, ∀ k, K ≤ k → sennitlaw21_awake.f k = some true := ⟨100, fun k hk => by
  obtain ⟨n, rfl⟩ : ∃ n, k = 100 + n := ⟨k - 100, by omega⟩
  exact sennitlaw21_awake.up n⟩
set_option maxHeartbeats 8000000 in
set_option maxRecDepth 100000 in
theorem sennitlaw21_awake.calls (k : Nat)  (r : Bool) (w : World) (h : sennitlaw21_awake.f k  = some r) (HMX : Aside0 (MaxAt w) := by exact ⟨MaxAt.go HMX (by repeat (first | (with_reducible first | exact HB.out | apply below_alloc | apply pw_below_drewN | apply below_drew1) | exact HB.out))⟩) :
    Calls Tryd.prog 26 #[] w fun e w' => e = .returned (.bool r) ∧ Below w.heap.size w w' := by
  have hrt_ : r = true := sennitlaw21_awake.true_ h
  have hu57 := Tryd.underlying57
  have HB := Aside0.mk (Below.refl w.heap.size w)
  have H : ((some (([(⟨(⟨#[32, 32]⟩ : ByteArray), (⟨#[97, 10]⟩ : ByteArray)⟩ : S57), (⟨(⟨#[43, 32]⟩ : ByteArray), (⟨#[98, 10]⟩ : ByteArray)⟩ : S57), (⟨(⟨#[32, 32]⟩ : ByteArray), (⟨#[99, 10]⟩ : ByteArray)⟩ : S57), (⟨(⟨#[32, 32]⟩ : ByteArray), (⟨#[100, 10]⟩ : ByteArray)⟩ : S57)] : List (S57)) : List (S57))).bind fun y101 => ((hunk_Hunks.f y101 1 false).bind fun bt104 => ((hunk_Hunks.f y101 1 true).bind fun bt108 => ((hunk_Hunks.f y101 (-1) false).bind fun bt112 => (if bt104.2 = 0 then (if bt108.2 = 0 then (if bt112.2 = 1 then (if (bt104.1.length : Int) = 1 then (if 0 < (bt104.1.length : Int) then (if (((rd_T48 bt104.1 0).f2).length : Int) = 3 then (if ((rd_T48 bt104.1 0).f1.f1) = 3 then (if 0 < (((rd_T48 bt104.1 0).f0).length : Int) then (if ((rd_T45 ((rd_T48 bt104.1 0).f0) 0).f1) = 2 then (if (bt108.1.length : Int) = 0 then (if 1 ≤ 2 then (if 2 ≤ (y101.length : Int) then ((hunk_Dull.f ((y101.take 2).drop 1)).bind fun t125 => (if t125 = true then ((hunk_Groups.f y101).bind fun t126 => (if (t126.length : Int) = 1 then ((hunk_May.f k y101).bind fun t129 => (some t129)) else (some false))) else (some false))) else (none)) else (none)) else (some false)) else (some false)) else (none)) else (some false)) else (some false)) else (none)) else (some false)) else (some false)) else (some false)) else (some false)))))) = some r := h
  clear h
  obtain ⟨y101, hy101⟩ : ∃ y_ : List (S57), y_ = (([(⟨(⟨#[32, 32]⟩ : ByteArray), (⟨#[97, 10]⟩ : ByteArray)⟩ : S57), (⟨(⟨#[43, 32]⟩ : ByteArray), (⟨#[98, 10]⟩ : ByteArray)⟩ : S57), (⟨(⟨#[32, 32]⟩ : ByteArray), (⟨#[99, 10]⟩ : ByteArray)⟩ : S57), (⟨(⟨#[32, 32]⟩ : ByteArray), (⟨#[100, 10]⟩ : ByteArray)⟩ : S57)] : List (S57))) := ⟨_, rfl⟩
  replace H : ((hunk_Hunks.f y101 1 false).bind fun bt104 => ((hunk_Hunks.f y101 1 true).bind fun bt108 => ((hunk_Hunks.f y101 (-1) false).bind fun bt112 => (if bt104.2 = 0 then (if bt108.2 = 0 then (if bt112.2 = 1 then (if (bt104.1.length : Int) = 1 then (if 0 < (bt104.1.length : Int) then (if (((rd_T48 bt104.1 0).f2).length : Int) = 3 then (if ((rd_T48 bt104.1 0).f1.f1) = 3 then (if 0 < (((rd_T48 bt104.1 0).f0).length : Int) then (if ((rd_T45 ((rd_T48 bt104.1 0).f0) 0).f1) = 2 then (if (bt108.1.length : Int) = 0 then (if 1 ≤ 2 then (if 2 ≤ (y101.length : Int) then ((hunk_Dull.f ((y101.take 2).drop 1)).bind fun t125 => (if t125 = true then ((hunk_Groups.f y101).bind fun t126 => (if (t126.length : Int) = 1 then ((hunk_May.f k y101).bind fun t129 => (some t129)) else (some false))) else (some false))) else (none)) else (none)) else (some false)) else (some false)) else (none)) else (some false)) else (some false)) else (none)) else (some false)) else (some false)) else (some false)) else (some false))))) = some r := by first | (rw [hy101]; with_reducible exact H) | (have H2_ := (Option.bind_some _ _).symm.trans H; rw [hy101]; with_reducible exact H2_) | (have H2_ := (Option.bind_some _ _).symm.trans H; with_reducible exact H2_) | with_reducible exact H | (rw [hy101]; exact H) | exact H
  have Ny101 := Aside0.mk hy101
  clear hy101
  replace H := Option.bind_eq_some_iff.mp H
  obtain ⟨⟨t104, t107⟩, A10, H⟩ := H
  replace H : ((hunk_Hunks.f y101 1 true).bind fun bt108 => ((hunk_Hunks.f y101 (-1) false).bind fun bt112 => (if t107 = 0 then (if bt108.2 = 0 then (if bt112.2 = 1 then (if (t104.length : Int) = 1 then (if 0 < (t104.length : Int) then (if (((rd_T48 t104 0).f2).length : Int) = 3 then (if ((rd_T48 t104 0).f1.f1) = 3 then (if 0 < (((rd_T48 t104 0).f0).length : Int) then (if ((rd_T45 ((rd_T48 t104 0).f0) 0).f1) = 2 then (if (bt108.1.length : Int) = 0 then (if 1 ≤ 2 then (if 2 ≤ (y101.length : Int) then ((hunk_Dull.f ((y101.take 2).drop 1)).bind fun t125 => (if t125 = true then ((hunk_Groups.f y101).bind fun t126 => (if (t126.length : Int) = 1 then ((hunk_May.f k y101).bind fun t129 => (some t129)) else (some false))) else (some false))) else (none)) else (none)) else (some false)) else (some false)) else (none)) else (some false)) else (some false)) else (none)) else (some false)) else (some false)) else (some false)) else (some false)))) = some r := H
  have A1 := Aside0.mk A10
  clear A10
  replace H := Option.bind_eq_some_iff.mp H
  obtain ⟨⟨t108, t111⟩, A20, H⟩ := H
  replace H : ((hunk_Hunks.f y101 (-1) false).bind fun bt112 => (if t107 = 0 then (if t111 = 0 then (if bt112.2 = 1 then (if (t104.length : Int) = 1 then (if 0 < (t104.length : Int) then (if (((rd_T48 t104 0).f2).length : Int) = 3 then (if ((rd_T48 t104 0).f1.f1) = 3 then (if 0 < (((rd_T48 t104 0).f0).length : Int) then (if ((rd_T45 ((rd_T48 t104 0).f0) 0).f1) = 2 then (if (t108.length : Int) = 0 then (if 1 ≤ 2 then (if 2 ≤ (y101.length : Int) then ((hunk_Dull.f ((y101.take 2).drop 1)).bind fun t125 => (if t125 = true then ((hunk_Groups.f y101).bind fun t126 => (if (t126.length : Int) = 1 then ((hunk_May.f k y101).bind fun t129 => (some t129)) else (some false))) else (some false))) else (none)) else (none)) else (some false)) else (some false)) else (none)) else (some false)) else (some false)) else (none)) else (some false)) else (some false)) else (some false)) else (some false))) = some r := H
  have A2 := Aside0.mk A20
  clear A20
  replace H := Option.bind_eq_some_iff.mp H
  obtain ⟨⟨t112, t115⟩, A30, H⟩ := H
  replace H : (if t107 = 0 then (if t111 = 0 then (if t115 = 1 then (if (t104.length : Int) = 1 then (if 0 < (t104.length : Int) then (if (((rd_T48 t104 0).f2).length : Int) = 3 then (if ((rd_T48 t104 0).f1.f1) = 3 then (if 0 < (((rd_T48 t104 0).f0).length : Int) then (if ((rd_T45 ((rd_T48 t104 0).f0) 0).f1) = 2 then (if (t108.length : Int) = 0 then (if 1 ≤ 2 then (if 2 ≤ (y101.length : Int) then ((hunk_Dull.f ((y101.take 2).drop 1)).bind fun t125 => (if t125 = true then ((hunk_Groups.f y101).bind fun t126 => (if (t126.length : Int) = 1 then ((hunk_May.f k y101).bind fun t129 => (some t129)) else (some false))) else (some false))) else (none)) else (none)) else (some false)) else (some false)) else (none)) else (some false)) else (some false)) else (none)) else (some false)) else (some false)) else (some false)) else (some false)) = some r := H
  have A3 := Aside0.mk A30
  clear A30
  by_cases c4 : t107 = 0
  · rw [if_pos c4] at H
    have c4b0 : (t107 == 0) = true := beq_iff_eq.mpr c4
    have c4b1 : (t107 != 0) = false := bne_eq_false_iff_eq.mpr c4
    clear c4
    by_cases c5 : t111 = 0
    · rw [if_pos c5] at H
      have c5b0 : (t111 == 0) = true := beq_iff_eq.mpr c5
      have c5b1 : (t111 != 0) = false := bne_eq_false_iff_eq.mpr c5
      clear c5
      by_cases c6 : t115 = 1
      · rw [if_pos c6] at H
        have c6b0 : (t115 == 1) = true := beq_iff_eq.mpr c6
        have c6b1 : (t115 != 1) = false := bne_eq_false_iff_eq.mpr c6
        clear c6
        by_cases c7 : (t104.length : Int) = 1
        · rw [if_pos c7] at H
          have c7b0 : ((t104.length : Int) == 1) = true := beq_iff_eq.mpr c7
          have c7b1 : ((t104.length : Int) != 1) = false := bne_eq_false_iff_eq.mpr c7
          clear c7
          by_cases c8 : 0 < (t104.length : Int)
          · rw [if_pos c8] at H
            have c8b0 : decide (0 < (t104.length : Int)) = true := decide_eq_true c8
            have c8b1 : decide (0 < t104.length) = true := decide_eq_true (by omega)
            clear c8
            by_cases c9 : (((rd_T48 t104 0).f2).length : Int) = 3
            · rw [if_pos c9] at H
              have c9b0 : ((((rd_T48 t104 0).f2).length : Int) == 3) = true := beq_iff_eq.mpr c9
              have c9b1 : ((((rd_T48 t104 0).f2).length : Int) != 3) = false := bne_eq_false_iff_eq.mpr c9
              clear c9
              by_cases c10 : ((rd_T48 t104 0).f1.f1) = 3
              · rw [if_pos c10] at H
                have c10b0 : (((rd_T48 t104 0).f1.f1) == 3) = true := beq_iff_eq.mpr c10
                have c10b1 : (((rd_T48 t104 0).f1.f1) != 3) = false := bne_eq_false_iff_eq.mpr c10
                clear c10
                by_cases c11 : 0 < (((rd_T48 t104 0).f0).length : Int)
                · rw [if_pos c11] at H
                  have c11b0 : decide (0 < (((rd_T48 t104 0).f0).length : Int)) = true := decide_eq_true c11
                  have c11b1 : decide (0 < ((rd_T48 t104 0).f0).length) = true := decide_eq_true (by omega)
                  clear c11
                  by_cases c12 : ((rd_T45 ((rd_T48 t104 0).f0) 0).f1) = 2
                  · rw [if_pos c12] at H
                    have c12b0 : (((rd_T45 ((rd_T48 t104 0).f0) 0).f1) == 2) = true := beq_iff_eq.mpr c12
                    have c12b1 : (((rd_T45 ((rd_T48 t104 0).f0) 0).f1) != 2) = false := bne_eq_false_iff_eq.mpr c12
                    clear c12
                    by_cases c13 : (t108.length : Int) = 0
                    · rw [if_pos c13] at H
                      have c13b0 : ((t108.length : Int) == 0) = true := beq_iff_eq.mpr c13
                      have c13b1 : ((t108.length : Int) != 0) = false := bne_eq_false_iff_eq.mpr c13
                      clear c13
                      by_cases c14 : 1 ≤ 2
                      · rw [if_pos c14] at H
                        have c14b0 := eq_true c14
                        have c14b1 : decide (1 ≤ 2) = true := decide_eq_true c14
                        clear c14
                        by_cases c15 : 2 ≤ (y101.length : Int)
                        · rw [if_pos c15] at H
                          have c15b0 := eq_true c15
                          have c15b1 : decide (2 ≤ (y101.length : Int)) = true := decide_eq_true c15
                          clear c15
                          obtain ⟨y120, hy120⟩ : ∃ y_ : List (S57), y_ = ((y101.take 2).drop 1) := ⟨_, rfl⟩
                          replace H : ((hunk_Dull.f y120).bind fun t125 => (if t125 = true then ((hunk_Groups.f y101).bind fun t126 => (if (t126.length : Int) = 1 then ((hunk_May.f k y101).bind fun t129 => (some t129)) else (some false))) else (some false))) = some r := by first | (rw [hy120]; with_reducible exact H) | (have H2_ := (Option.bind_some _ _).symm.trans H; rw [hy120]; with_reducible exact H2_) | (have H2_ := (Option.bind_some _ _).symm.trans H; with_reducible exact H2_) | with_reducible exact H | (rw [hy120]; exact H) | exact H
                          have Ny120 := Aside0.mk hy120
                          clear hy120
                          replace H := Option.bind_eq_some_iff.mp H
                          obtain ⟨t125, A160, H⟩ := H
                          replace H : (if t125 = true then ((hunk_Groups.f y101).bind fun t126 => (if (t126.length : Int) = 1 then ((hunk_May.f k y101).bind fun t129 => (some t129)) else (some false))) else (some false)) = some r := H
                          have A16 := Aside0.mk A160
                          clear A160
                          by_cases c17 : t125 = true
                          · subst c17
                            have H1 : ((hunk_Groups.f y101).bind fun t126 => (if (t126.length : Int) = 1 then ((hunk_May.f k y101).bind fun t129 => (some t129)) else (some false))) = some r := by rw [if_pos rfl] at H; exact H
                            clear H
                            have H := H1
                            clear H1
                            replace H := Option.bind_eq_some_iff.mp H
                            obtain ⟨t126, A180, H⟩ := H
                            replace H : (if (t126.length : Int) = 1 then ((hunk_May.f k y101).bind fun t129 => (some t129)) else (some false)) = some r := H
                            have A18 := Aside0.mk A180
                            clear A180
                            by_cases c19 : (t126.length : Int) = 1
                            · rw [if_pos c19] at H
                              have c19b0 : ((t126.length : Int) == 1) = true := beq_iff_eq.mpr c19
                              have c19b1 : ((t126.length : Int) != 1) = false := bne_eq_false_iff_eq.mpr c19
                              clear c19
                              replace H := Option.bind_eq_some_iff.mp H
                              obtain ⟨t129, A200, H⟩ := H
                              replace H : (some t129) = some r := H
                              have A20 := Aside0.mk A200
                              clear A200
                              obtain rfl := Option.some.inj H
                              go_enter Tryd.func26, Tryd.ntmps26
                              go_wp2_with (first | ((with_reducible refine gate_dst (N := 12) rfl ?_); (try (refine gate_guard (by rfl) ?_; dsimp only)); refine Kd.R_lit k57 _ 57 ?hg (N := 12) ?hd (xs := ([(⟨(⟨#[32, 32]⟩ : ByteArray), (⟨#[97, 10]⟩ : ByteArray)⟩ : S57), (⟨(⟨#[43, 32]⟩ : ByteArray), (⟨#[98, 10]⟩ : ByteArray)⟩ : S57), (⟨(⟨#[32, 32]⟩ : ByteArray), (⟨#[99, 10]⟩ : ByteArray)⟩ : S57), (⟨(⟨#[32, 32]⟩ : ByteArray), (⟨#[100, 10]⟩ : ByteArray)⟩ : S57)] : List (S57))) (inner := [.string (⟨#[32, 32]⟩ : ByteArray), .string (⟨#[97, 10]⟩ : ByteArray), .string (⟨#[43, 32]⟩ : ByteArray), .string (⟨#[98, 10]⟩ : ByteArray), .string (⟨#[32, 32]⟩ : ByteArray), .string (⟨#[99, 10]⟩ : ByteArray), .string (⟨#[32, 32]⟩ : ByteArray), .string (⟨#[100, 10]⟩ : ByteArray)]) (ok := fun _ => True) (okp := fun _ => True) ?hr ?hp (fun _ hk => hk) trivial (Below.refl _ _) (Nat.le_refl _) (by simp) ?_; (case hd => rfl); (case hg => rfl); (case hr => first | (go_simp; done) | (go_simp; rfl)); (case hp => exact (Reps.c2 (show Kd.M k57 _ _ _ (⟨(⟨#[32, 32]⟩ : ByteArray), (⟨#[97, 10]⟩ : ByteArray)⟩ : S57) [.string (⟨#[32, 32]⟩ : ByteArray), .string (⟨#[97, 10]⟩ : ByteArray)] from (k57_mkM _ _ _ (⟨(⟨#[32, 32]⟩ : ByteArray), (⟨#[97, 10]⟩ : ByteArray)⟩ : S57) )) (Reps.c2 (show Kd.M k57 _ _ _ (⟨(⟨#[43, 32]⟩ : ByteArray), (⟨#[98, 10]⟩ : ByteArray)⟩ : S57) [.string (⟨#[43, 32]⟩ : ByteArray), .string (⟨#[98, 10]⟩ : ByteArray)] from (k57_mkM _ _ _ (⟨(⟨#[43, 32]⟩ : ByteArray), (⟨#[98, 10]⟩ : ByteArray)⟩ : S57) )) (Reps.c2 (show Kd.M k57 _ _ _ (⟨(⟨#[32, 32]⟩ : ByteArray), (⟨#[99, 10]⟩ : ByteArray)⟩ : S57) [.string (⟨#[32, 32]⟩ : ByteArray), .string (⟨#[99, 10]⟩ : ByteArray)] from (k57_mkM _ _ _ (⟨(⟨#[32, 32]⟩ : ByteArray), (⟨#[99, 10]⟩ : ByteArray)⟩ : S57) )) (Reps.c2 (show Kd.M k57 _ _ _ (⟨(⟨#[32, 32]⟩ : ByteArray), (⟨#[100, 10]⟩ : ByteArray)⟩ : S57) [.string (⟨#[32, 32]⟩ : ByteArray), .string (⟨#[100, 10]⟩ : ByteArray)] from (k57_mkM _ _ _ (⟨(⟨#[32, 32]⟩ : ByteArray), (⟨#[100, 10]⟩ : ByteArray)⟩ : S57) )) (Reps.none _ _)))))); intro v102 w21 ho22 hb hg_ hnew_; clear hg_ hnew_; (first | rw [← Ny101.out] at ho22 | (simp only [Int.reduceToNat] at ho22; rw [← Ny101.out] at ho22)); have n0_ := Aside0.mk (Kd.R_lower ho22 (below_size (by repeat (first | (with_reducible first | exact HB.out | apply below_alloc | apply pw_below_drewN | apply below_drew1) | exact HB.out)))); have n1_ := Aside0.mk (below_step (by repeat (first | (with_reducible first | exact HB.out | apply below_alloc | apply pw_below_drewN | apply below_drew1) | exact HB.out)) hb); clear HB; have HO103 := n0_; have HB := n1_; clear n0_ n1_; clear hb ho22; obtain ⟨Ao23, co23, eo23⟩ := Kd.R_slice HO103.out; subst eo23) | ((with_reducible refine gate_callee (f := 28) rfl ?_); refine goesL_ (some 15) rfl rfl Tryd.func28 (by kernel_rfl) rfl #[.slice Ao23 y101.length co23, .int .i64 1, .bool false] rfl (by (try simp only [List.map_toArray, List.map_cons, List.map_nil]); first | done | rfl | (simp only [List.length_drop, List.length_take]; rfl)) ?_; (with_reducible refine (hunk_Hunks.calls (fun k_ => some k_ = (.slice Ao23 y101.length co23 : Value).ownBlock) _ _ y101 1 false t104 t107 _ ?side1 A1.out).mono ?_); (case side1 => exact Kd.R_V (Kd.R_tight rfl (HO103.out))); rintro e w24 ⟨v105, rfl, ho0, hb⟩; refine ⟨_, rfl, ?_⟩; have n0_ := Aside0.mk (Kd.R_below (by (with_reducible repeat (first | apply Kd.R_alloc | apply Kd.R_drewN | apply Kd.R_drew)); exact HO103.out) hb); have n1_ := Aside0.mk (Kd.N_lower (Kd.N_mono (ok' := fun k_ => True) ho0 (fun k_ hk_ => trivial)) (below_size (by repeat (first | (with_reducible first | exact HB.out | apply below_alloc | apply pw_below_drewN | apply below_drew1) | exact HB.out)))); have n2_ := Aside0.mk (below_step (by repeat (first | (with_reducible first | exact HB.out | apply below_alloc | apply pw_below_drewN | apply below_drew1) | exact HB.out)) hb); clear HO103; clear HB; have HO103 := n0_; have HO106 := n1_; have HB := n2_; clear n0_ n1_ n2_; (try clear hb); (try clear hb2); (try clear hk); (try clear hi); (try clear ho0)) | ((with_reducible refine gate_callee (f := 28) rfl ?_); refine goesL_ (some 20) rfl rfl Tryd.func28 (by kernel_rfl) rfl #[.slice Ao23 y101.length co23, .int .i64 1, .bool true] rfl (by (try simp only [List.map_toArray, List.map_cons, List.map_nil]); first | done | rfl | (simp only [List.length_drop, List.length_take]; rfl)) ?_; (with_reducible refine (hunk_Hunks.calls (fun k_ => some k_ = (.slice Ao23 y101.length co23 : Value).ownBlock) _ _ y101 1 true t108 t111 _ ?side1 A2.out).mono ?_); (case side1 => exact Kd.R_V (Kd.R_tight rfl (Kd.R_apart' (HO103.out) (Kd.N_typed HO106.out) (by decide)))); rintro e w25 ⟨v109, rfl, ho0, hb⟩; refine ⟨_, rfl, ?_⟩; have n0_ := Aside0.mk (Kd.R_below (by (with_reducible repeat (first | apply Kd.R_alloc | apply Kd.R_drewN | apply Kd.R_drew)); exact HO103.out) hb); have n1_ := Aside0.mk (Kd.N_elder' (by (with_reducible repeat (first | apply Kd.N_alloc | apply Kd.N_drewN | apply Kd.N_drew)); exact HO106.out) (Kd.N_base (by first | exact ho0 | exact Kd.S_N ho0)) hb); have n2_ := Aside0.mk (Kd.N_lower (Kd.N_mono (ok' := fun k_ => some k_ ≠ (v105 : Value).ownBlock) ho0 (fun k_ hk_ => Or.elim hk_ (fun hs_ => ((Kd.R_apart' (HO103.out) (Kd.N_typed HO106.out) (by decide)).1 k_ hs_.symm).2) (fun hn_ => (Kd.fresh' (Kd.N_lt (by (with_reducible repeat (first | apply Kd.N_alloc | apply Kd.N_drewN | apply Kd.N_drew)); exact HO106.out)) k_ hn_)))) (below_size (by repeat (first | (with_reducible first | exact HB.out | apply below_alloc | apply pw_below_drewN | apply below_drew1) | exact HB.out)))); have n3_ := Aside0.mk (below_step (by repeat (first | (with_reducible first | exact HB.out | apply below_alloc | apply pw_below_drewN | apply below_drew1) | exact HB.out)) hb); clear HO103; clear HO106; clear HB; have HO103 := n0_; have HO106 := n1_; have HO110 := n2_; have HB := n3_; clear n0_ n1_ n2_ n3_; (try clear hb); (try clear hb2); (try clear hk); (try clear hi); (try clear ho0)) | ((with_reducible refine gate_callee (f := 28) rfl ?_); refine goesL_ (some 25) rfl rfl Tryd.func28 (by kernel_rfl) rfl #[.slice Ao23 y101.length co23, .int .i64 (-1), .bool false] rfl (by (try simp only [List.map_toArray, List.map_cons, List.map_nil]); first | done | rfl | (simp only [List.length_drop, List.length_take]; rfl)) ?_; (with_reducible refine (hunk_Hunks.calls (fun k_ => some k_ = (.slice Ao23 y101.length co23 : Value).ownBlock) _ _ y101 (-1) false t112 t115 _ ?side1 A3.out).mono ?_); (case side1 => exact Kd.R_V (Kd.R_tight rfl (Kd.R_apart' (Kd.R_apart' (HO103.out) (Kd.N_typed HO106.out) (by decide)) (Kd.N_typed HO110.out) (by decide)))); rintro e w26 ⟨v113, rfl, ho0, hb⟩; refine ⟨_, rfl, ?_⟩; have n0_ := Aside0.mk (Kd.R_below (by (with_reducible repeat (first | apply Kd.R_alloc | apply Kd.R_drewN | apply Kd.R_drew)); exact HO103.out) hb); have n1_ := Aside0.mk (Kd.N_elder' (by (with_reducible repeat (first | apply Kd.N_alloc | apply Kd.N_drewN | apply Kd.N_drew)); exact HO106.out) (Kd.N_base (by first | exact ho0 | exact Kd.S_N ho0)) hb); have n2_ := Aside0.mk (Kd.N_elder' (by (with_reducible repeat (first | apply Kd.N_alloc | apply Kd.N_drewN | apply Kd.N_drew)); exact HO110.out) (Kd.N_base (by first | exact ho0 | exact Kd.S_N ho0)) hb); have n3_ := Aside0.mk (Kd.N_lower (Kd.N_mono (ok' := fun k_ => some k_ ≠ (v105 : Value).ownBlock ∧ some k_ ≠ (v109 : Value).ownBlock) ho0 (fun k_ hk_ => ⟨Or.elim hk_ (fun hs_ => ((Kd.R_apart' (Kd.R_apart' (HO103.out) (Kd.N_typed HO106.out) (by decide)) (Kd.N_typed HO110.out) (by decide)).1 k_ hs_.symm).1.2) (fun hn_ => (Kd.fresh' (Kd.N_lt (by (with_reducible repeat (first | apply Kd.N_alloc | apply Kd.N_drewN | apply Kd.N_drew)); exact HO106.out)) k_ hn_)), Or.elim hk_ (fun hs_ => ((Kd.R_apart' (Kd.R_apart' (HO103.out) (Kd.N_typed HO106.out) (by decide)) (Kd.N_typed HO110.out) (by decide)).1 k_ hs_.symm).2) (fun hn_ => (Kd.fresh' (Kd.N_lt (by (with_reducible repeat (first | apply Kd.N_alloc | apply Kd.N_drewN | apply Kd.N_drew)); exact HO110.out)) k_ hn_))⟩)) (below_size (by repeat (first | (with_reducible first | exact HB.out | apply below_alloc | apply pw_below_drewN | apply below_drew1) | exact HB.out)))); have n4_ := Aside0.mk (below_step (by repeat (first | (with_reducible first | exact HB.out | apply below_alloc | apply pw_below_drewN | apply below_drew1) | exact HB.out)) hb); clear HO103; clear HO106; clear HO110; clear HB; have HO103 := n0_; have HO106 := n1_; have HO110 := n2_; have HO114 := n3_; have HB := n4_; clear n0_ n1_ n2_ n3_ n4_; (try clear hb); (try clear hb2); (try clear hk); (try clear hi); (try clear ho0); obtain ⟨Ao27, co27, eo27⟩ := Kd.N_slice HO106.out; subst eo27; have p116 : 0 ≤ (0 : Int) := (by omega); have q116 : 0 < (t104.length : Int) := of_decide_eq_true (by first | (with_reducible assumption) | assumption); obtain ⟨ad116, A116_0, c116_0, A116_3, c116_3, e116, hx116_0, hx116_1, hx116_2, hx116_3, hl116_0, hi116_0, hl116_3, hi116_3⟩ := at_T48 (Kd.N_reads' HO106.out).2.2 0 p116 q116; cases e116; obtain ⟨ce116, hce116, hMe116, hcc116⟩ := Kd.N_get HO106.out z48 0 p116 (by first | exact q116 | exact of_decide_eq_true (by first | (with_reducible assumption) | assumption) | (have e_ := (Kd.N_reads' HO106.out).1; omega)); obtain ⟨ua116_0, uc116_0, ua116_3, uc116_3, rfl, ul116_0, ge116_0, ul116_3, ge116_3⟩ := k48_openF hMe116; have hv116_0 := hcc116 0 _ rfl; rw [Nat.add_zero] at hv116_0; replace hv116_0 := Option.some.inj (hv116_0.symm.trans hx116_0); injection hv116_0 with hva_ hvn_ hvc_; rw [hva_] at ge116_0; rw [hvc_] at ul116_0; have HL116_0 := Aside0.mk (show Kd.V k45 45 _ w.heap.size _ _ ((rd_T48 t104 0).f0) from Kd.V_mk ul116_0 ge116_0); clear hva_ hvn_ hvc_ ge116_0 ul116_0; have hv116_3 := hcc116 3 _ rfl; rw [add_field _ _ 3 (by omega)] at hv116_3; replace hv116_3 := Option.some.inj (hv116_3.symm.trans hx116_3); injection hv116_3 with hva_ hvn_ hvc_; rw [hva_] at ge116_3; rw [hvc_] at ul116_3; have HL116_3 := Aside0.mk (show Kd.V k57 57 _ w.heap.size _ _ ((rd_T48 t104 0).f2) from Kd.V_mk ul116_3 ge116_3); clear hva_ hvn_ hvc_ ge116_3 ul116_3; clear hcc116 hce116; have qi116 : (0 < t104.length) = True := eq_true (by omega); (try rw [show ((0 : Int)).toNat = 0 from rfl] at hx116_0); (try rw [show 0 * 4 = 0 from rfl] at hx116_0); (try rw [Addr.add_zero'] at hx116_0); (try rw [show ((0 : Int)).toNat = 0 from rfl] at hx116_1); (try rw [show 0 * 4 = 0 from rfl] at hx116_1); (try rw [Addr.add_zero'] at hx116_1); (try rw [show ((0 : Int)).toNat = 0 from rfl] at hx116_2); (try rw [show 0 * 4 = 0 from rfl] at hx116_2); (try rw [Addr.add_zero'] at hx116_2); (try rw [show ((0 : Int)).toNat = 0 from rfl] at hx116_3); (try rw [show 0 * 4 = 0 from rfl] at hx116_3); (try rw [Addr.add_zero'] at hx116_3); have HR116_0 := Aside0.mk hi116_0; have HC116_0 := Aside0.mk hl116_0; clear hi116_0 hl116_0; have HR116_3 := Aside0.mk hi116_3; have HC116_3 := Aside0.mk hl116_3; clear hi116_3 hl116_3; replace p116 := eq_true p116; replace q116 := eq_true q116; have p117 : 0 ≤ (0 : Int) := (by omega); have q117 : 0 < (t104.length : Int) := of_decide_eq_true (by first | (with_reducible assumption) | assumption); obtain ⟨ad117, A117_0, c117_0, A117_3, c117_3, e117, hx117_0, hx117_1, hx117_2, hx117_3, hl117_0, hi117_0, hl117_3, hi117_3⟩ := at_T48 (Kd.N_reads' HO106.out).2.2 0 p117 q117; obtain rfl : ad116 = ad117 := (by injection e117); obtain ⟨ce117, hce117, hMe117, hcc117⟩ := Kd.N_get HO106.out z48 0 p117 (by first | exact q117 | exact of_decide_eq_true (by first | (with_reducible assumption) | assumption) | (have e_ := (Kd.N_reads' HO106.out).1; omega)); obtain ⟨ua117_0, uc117_0, ua117_3, uc117_3, rfl, ul117_0, ge117_0, ul117_3, ge117_3⟩ := k48_openF hMe117; have hv117_0 := hcc117 0 _ rfl; rw [Nat.add_zero] at hv117_0; replace hv117_0 := Option.some.inj (hv117_0.symm.trans hx117_0); injection hv117_0 with hva_ hvn_ hvc_; rw [hva_] at ge117_0; rw [hvc_] at ul117_0; have HL117_0 := Aside0.mk (show Kd.V k45 45 _ w.heap.size _ _ ((rd_T48 t104 0).f0) from Kd.V_mk ul117_0 ge117_0); clear hva_ hvn_ hvc_ ge117_0 ul117_0; have hv117_3 := hcc117 3 _ rfl; rw [add_field _ _ 3 (by omega)] at hv117_3; replace hv117_3 := Option.some.inj (hv117_3.symm.trans hx117_3); injection hv117_3 with hva_ hvn_ hvc_; rw [hva_] at ge117_3; rw [hvc_] at ul117_3; have HL117_3 := Aside0.mk (show Kd.V k57 57 _ w.heap.size _ _ ((rd_T48 t104 0).f2) from Kd.V_mk ul117_3 ge117_3); clear hva_ hvn_ hvc_ ge117_3 ul117_3; clear hcc117 hce117; have qi117 : (0 < t104.length) = True := eq_true (by omega); (try rw [show ((0 : Int)).toNat = 0 from rfl] at hx117_0); (try rw [show 0 * 4 = 0 from rfl] at hx117_0); (try rw [Addr.add_zero'] at hx117_0); (try rw [show ((0 : Int)).toNat = 0 from rfl] at hx117_1); (try rw [show 0 * 4 = 0 from rfl] at hx117_1); (try rw [Addr.add_zero'] at hx117_1); (try rw [show ((0 : Int)).toNat = 0 from rfl] at hx117_2); (try rw [show 0 * 4 = 0 from rfl] at hx117_2); (try rw [Addr.add_zero'] at hx117_2); (try rw [show ((0 : Int)).toNat = 0 from rfl] at hx117_3); (try rw [show 0 * 4 = 0 from rfl] at hx117_3); (try rw [Addr.add_zero'] at hx117_3); have HR117_0 := Aside0.mk hi117_0; have HC117_0 := Aside0.mk hl117_0; clear hi117_0 hl117_0; have HR117_3 := Aside0.mk hi117_3; have HC117_3 := Aside0.mk hl117_3; clear hi117_3 hl117_3; replace p117 := eq_true p117; replace q117 := eq_true q117; have ea_ := Option.some.inj (hx116_0.symm.trans hx117_0); injection ea_ with ea_ en_ ec_; subst ea_; subst ec_; clear en_; have ea_ := Option.some.inj (hx116_3.symm.trans hx117_3); injection ea_ with ea_ en_ ec_; subst ea_; subst ec_; clear en_; have p118 : 0 ≤ (0 : Int) := (by omega); have q118 : 0 < (t104.length : Int) := of_decide_eq_true (by first | (with_reducible assumption) | assumption); obtain ⟨ad118, A118_0, c118_0, A118_3, c118_3, e118, hx118_0, hx118_1, hx118_2, hx118_3, hl118_0, hi118_0, hl118_3, hi118_3⟩ := at_T48 (Kd.N_reads' HO106.out).2.2 0 p118 q118; obtain rfl : ad116 = ad118 := (by injection e118); obtain ⟨ce118, hce118, hMe118, hcc118⟩ := Kd.N_get HO106.out z48 0 p118 (by first | exact q118 | exact of_decide_eq_true (by first | (with_reducible assumption) | assumption) | (have e_ := (Kd.N_reads' HO106.out).1; omega)); obtain ⟨ua118_0, uc118_0, ua118_3, uc118_3, rfl, ul118_0, ge118_0, ul118_3, ge118_3⟩ := k48_openF hMe118; have hv118_0 := hcc118 0 _ rfl; rw [Nat.add_zero] at hv118_0; replace hv118_0 := Option.some.inj (hv118_0.symm.trans hx118_0); injection hv118_0 with hva_ hvn_ hvc_; rw [hva_] at ge118_0; rw [hvc_] at ul118_0; have HL118_0 := Aside0.mk (show Kd.V k45 45 _ w.heap.size _ _ ((rd_T48 t104 0).f0) from Kd.V_mk ul118_0 ge118_0); clear hva_ hvn_ hvc_ ge118_0 ul118_0; have hv118_3 := hcc118 3 _ rfl; rw [add_field _ _ 3 (by omega)] at hv118_3; replace hv118_3 := Option.some.inj (hv118_3.symm.trans hx118_3); injection hv118_3 with hva_ hvn_ hvc_; rw [hva_] at ge118_3; rw [hvc_] at ul118_3; have HL118_3 := Aside0.mk (show Kd.V k57 57 _ w.heap.size _ _ ((rd_T48 t104 0).f2) from Kd.V_mk ul118_3 ge118_3); clear hva_ hvn_ hvc_ ge118_3 ul118_3; clear hcc118 hce118; have qi118 : (0 < t104.length) = True := eq_true (by omega); (try rw [show ((0 : Int)).toNat = 0 from rfl] at hx118_0); (try rw [show 0 * 4 = 0 from rfl] at hx118_0); (try rw [Addr.add_zero'] at hx118_0); (try rw [show ((0 : Int)).toNat = 0 from rfl] at hx118_1); (try rw [show 0 * 4 = 0 from rfl] at hx118_1); (try rw [Addr.add_zero'] at hx118_1); (try rw [show ((0 : Int)).toNat = 0 from rfl] at hx118_2); (try rw [show 0 * 4 = 0 from rfl] at hx118_2); (try rw [Addr.add_zero'] at hx118_2); (try rw [show ((0 : Int)).toNat = 0 from rfl] at hx118_3); (try rw [show 0 * 4 = 0 from rfl] at hx118_3); (try rw [Addr.add_zero'] at hx118_3); have HR118_0 := Aside0.mk hi118_0; have HC118_0 := Aside0.mk hl118_0; clear hi118_0 hl118_0; have HR118_3 := Aside0.mk hi118_3; have HC118_3 := Aside0.mk hl118_3; clear hi118_3 hl118_3; replace p118 := eq_true p118; replace q118 := eq_true q118; have ea_ := Option.some.inj (hx116_0.symm.trans hx118_0); injection ea_ with ea_ en_ ec_; subst ea_; subst ec_; clear en_; have ea_ := Option.some.inj (hx116_3.symm.trans hx118_3); injection ea_ with ea_ en_ ec_; subst ea_; subst ec_; clear en_; have p119 : 0 ≤ (0 : Int) := (by omega); have q119 : 0 < (((rd_T48 t104 0).f0).length : Int) := of_decide_eq_true (by first | (with_reducible assumption) | assumption); obtain ⟨ad119, e119, hx119_0, hx119_1⟩ := at_T45 (by repeat (first | (with_reducible exact HR118_0.out) | (with_reducible refine Kd.C_alloc ?_ _) | (with_reducible refine Kd.C_drewN ?_ _) | (with_reducible refine Kd.C_drew ?_) | exact HR118_0.out)) 0 p119 q119; cases e119; have qi119 : (0 < ((rd_T48 t104 0).f0).length) = True := eq_true (by omega); (try rw [show ((0 : Int)).toNat = 0 from rfl] at hx119_0); (try rw [show 0 * 2 = 0 from rfl] at hx119_0); (try rw [Addr.add_zero'] at hx119_0); (try rw [show ((0 : Int)).toNat = 0 from rfl] at hx119_1); (try rw [show 0 * 2 = 0 from rfl] at hx119_1); (try rw [Addr.add_zero'] at hx119_1); replace p119 := eq_true p119; replace q119 := eq_true q119; obtain ⟨Ao28, co28, eo28⟩ := Kd.N_slice HO110.out; subst eo28; have q29 : (2 : Int) ≤ ((y101.length : Int) : Int) := of_decide_eq_true (by first | (with_reducible assumption) | assumption); obtain ⟨i029, hi029, _, hsz29, _⟩ := info_parts info57; have hroom29 : y101.length ≤ co23 := (Kd.R_reads' HO103.out).2.1; have hC29 : Kd.F k57 _ _ Ao23 y101.length y101 := (Kd.V_at (base := w.heap.size) (Kd.R_V (Kd.R_apart' (Kd.R_apart' (Kd.R_apart' (HO103.out) (Kd.N_typed HO106.out) (by decide)) (Kd.N_typed HO110.out) (by decide)) (Kd.N_typed HO114.out) (by decide)))).2.2; have ql29 : (1 : Int) ≤ (2 : Int) := (by omega); have hcut29 := cut_mid (P := Tryd.prog) 36 57 .i64 .i64 Tryd.underlying36 hi029 2 hsz29 Ao23 y101.length co23 1 2 (by omega) ql29 q29 hroom29; have hr29 := Kd.F_mid (lo := (1 : Int).toNat) (hi := (2 : Int).toNat) (c := co23) hC29 (by omega) (by omega) hroom29; obtain ⟨A29, hA29⟩ : ∃ Az_, Az_ = (if co23 = (1 : Int).toNat then Ao23 else (Ao23 : Option Addr).map (·.add ((1 : Int).toNat * 2))) := ⟨_, rfl⟩; obtain ⟨c29, hc29⟩ : ∃ c1, c1 = co23 - (1 : Int).toNat := ⟨_, rfl⟩; have hy29 : y120.length = (2 : Int).toNat - (1 : Int).toNat := (by rw [Ny120.out, List.length_drop, List.length_take] <;> omega); rw [show ((y101).take (2 : Int).toNat).drop (1 : Int).toNat = y120 from Ny120.out.symm] at hr29; replace hr29 : Kd.F k57 _ _ A29 y120.length y120 := (by rw [hA29]; exact hr29); rw [← hy29, ← hA29, ← hc29] at hcut29; have HO124 := Aside0.mk (show Kd.V k57 57 _ w.heap.size _ (.slice A29 y120.length c29) y120 from Kd.V_mk (by rw [hy29, hc29]; exact Nat.sub_le_sub_right (Nat.le_trans (by omega) hroom29) _) hr29); have HC124 := Aside0.mk (show y120.length ≤ c29 from by rw [hy29, hc29]; exact Nat.sub_le_sub_right (Nat.le_trans (by omega) hroom29) _); clear hr29 hC29 hroom29 hi029 hsz29 hc29; have KY29 := Aside0.mk hy29; have KA29 := Aside0.mk hA29; clear hy29 hA29; replace q29 := eq_true q29) | (go_at_call 33; (with_reducible refine (hunk_Dull.calls _ _ y120 true _ ?side1 ?side2 A16.out).mono ?_); (case side1 => repeat (first | exact (Kd.V_reads' HO124.out).2.2 | (with_reducible refine Kd.C_alloc ?_ _) | (with_reducible refine Kd.C_drewN ?_ _) | (with_reducible refine Kd.C_drew ?_))); (case side2 => exact (Kd.V_reads' HO124.out).2.1); rintro e w30 ⟨rfl, hb⟩; have n0_ := Aside0.mk (Kd.R_below (by (with_reducible repeat (first | apply Kd.R_alloc | apply Kd.R_drewN | apply Kd.R_drew)); exact HO103.out) hb); have n1_ := Aside0.mk (Kd.N_below (by (with_reducible repeat (first | apply Kd.N_alloc | apply Kd.N_drewN | apply Kd.N_drew)); exact HO106.out) hb); have n2_ := Aside0.mk (Kd.N_below (by (with_reducible repeat (first | apply Kd.N_alloc | apply Kd.N_drewN | apply Kd.N_drew)); exact HO110.out) hb); have n3_ := Aside0.mk (Kd.N_below (by (with_reducible repeat (first | apply Kd.N_alloc | apply Kd.N_drewN | apply Kd.N_drew)); exact HO114.out) hb); have n4_ := Aside0.mk (Kd.V_below (by (with_reducible repeat (first | apply Kd.V_alloc | apply Kd.V_drewN | apply Kd.V_drew)); exact HL116_0.out) hb); have n5_ := Aside0.mk (Kd.V_below (by (with_reducible repeat (first | apply Kd.V_alloc | apply Kd.V_drewN | apply Kd.V_drew)); exact HL116_3.out) hb); have n6_ := Aside0.mk (Kd.V_below (by (with_reducible repeat (first | apply Kd.V_alloc | apply Kd.V_drewN | apply Kd.V_drew)); exact HL117_0.out) hb); have n7_ := Aside0.mk (Kd.V_below (by (with_reducible repeat (first | apply Kd.V_alloc | apply Kd.V_drewN | apply Kd.V_drew)); exact HL117_3.out) hb); have n8_ := Aside0.mk (Kd.V_below (by (with_reducible repeat (first | apply Kd.V_alloc | apply Kd.V_drewN | apply Kd.V_drew)); exact HL118_0.out) hb); have n9_ := Aside0.mk (Kd.V_below (by (with_reducible repeat (first | apply Kd.V_alloc | apply Kd.V_drewN | apply Kd.V_drew)); exact HL118_3.out) hb); have n10_ := Aside0.mk (Kd.V_below (by (with_reducible repeat (first | apply Kd.V_alloc | apply Kd.V_drewN | apply Kd.V_drew)); exact HO124.out) hb); have n11_ := Aside0.mk (Kd.C_below (by repeat (first | (with_reducible exact HR116_0.out) | (with_reducible refine Kd.C_alloc ?_ _) | (with_reducible refine Kd.C_drewN ?_ _) | (with_reducible refine Kd.C_drew ?_) | exact HR116_0.out)) hb); have n12_ := Aside0.mk (Kd.C_below (by repeat (first | (with_reducible exact HR116_3.out) | (with_reducible refine Kd.C_alloc ?_ _) | (with_reducible refine Kd.C_drewN ?_ _) | (with_reducible refine Kd.C_drew ?_) | exact HR116_3.out)) hb); have n13_ := Aside0.mk (Kd.C_below (by repeat (first | (with_reducible exact HR117_0.out) | (with_reducible refine Kd.C_alloc ?_ _) | (with_reducible refine Kd.C_drewN ?_ _) | (with_reducible refine Kd.C_drew ?_) | exact HR117_0.out)) hb); have n14_ := Aside0.mk (Kd.C_below (by repeat (first | (with_reducible exact HR117_3.out) | (with_reducible refine Kd.C_alloc ?_ _) | (with_reducible refine Kd.C_drewN ?_ _) | (with_reducible refine Kd.C_drew ?_) | exact HR117_3.out)) hb); have n15_ := Aside0.mk (Kd.C_below (by repeat (first | (with_reducible exact HR118_0.out) | (with_reducible refine Kd.C_alloc ?_ _) | (with_reducible refine Kd.C_drewN ?_ _) | (with_reducible refine Kd.C_drew ?_) | exact HR118_0.out)) hb); have n16_ := Aside0.mk (Kd.C_below (by repeat (first | (with_reducible exact HR118_3.out) | (with_reducible refine Kd.C_alloc ?_ _) | (with_reducible refine Kd.C_drewN ?_ _) | (with_reducible refine Kd.C_drew ?_) | exact HR118_3.out)) hb); have n17_ := Aside0.mk (below_step (by repeat (first | (with_reducible first | exact HB.out | apply below_alloc | apply pw_below_drewN | apply below_drew1) | exact HB.out)) hb); clear HO103; clear HO106; clear HO110; clear HO114; clear HL116_0; clear HL116_3; clear HL117_0; clear HL117_3; clear HL118_0; clear HL118_3; clear HO124; clear HR116_0; clear HR116_3; clear HR117_0; clear HR117_3; clear HR118_0; clear HR118_3; clear HB; have HO103 := n0_; have HO106 := n1_; have HO110 := n2_; have HO114 := n3_; have HL116_0 := n4_; have HL116_3 := n5_; have HL117_0 := n6_; have HL117_3 := n7_; have HL118_0 := n8_; have HL118_3 := n9_; have HO124 := n10_; have HR116_0 := n11_; have HR116_3 := n12_; have HR117_0 := n13_; have HR117_3 := n14_; have HR118_0 := n15_; have HR118_3 := n16_; have HB := n17_; clear n0_ n1_ n2_ n3_ n4_ n5_ n6_ n7_ n8_ n9_ n10_ n11_ n12_ n13_ n14_ n15_ n16_ n17_; (try clear hb); (try clear hb2); (try clear hk); (try clear hi)) | (go_at_call 31; (with_reducible refine (hunk_Groups.calls _ _ y101 t126 _ ?side1 ?side2 A18.out).mono ?_); (case side1 => repeat (first | exact (Kd.R_reads' HO103.out).2.2 | (with_reducible refine Kd.C_alloc ?_ _) | (with_reducible refine Kd.C_drewN ?_ _) | (with_reducible refine Kd.C_drew ?_))); (case side2 => exact (Kd.R_reads' HO103.out).2.1); rintro e w31 ⟨v127, rfl, ho0, hb⟩; have n0_ := Aside0.mk (Kd.R_below (by (with_reducible repeat (first | apply Kd.R_alloc | apply Kd.R_drewN | apply Kd.R_drew)); exact HO103.out) hb); have n1_ := Aside0.mk (Kd.N_elder' (by (with_reducible repeat (first | apply Kd.N_alloc | apply Kd.N_drewN | apply Kd.N_drew)); exact HO106.out) (Kd.R_base ho0) hb); have n2_ := Aside0.mk (Kd.N_elder' (by (with_reducible repeat (first | apply Kd.N_alloc | apply Kd.N_drewN | apply Kd.N_drew)); exact HO110.out) (Kd.R_base ho0) hb); have n3_ := Aside0.mk (Kd.N_elder' (by (with_reducible repeat (first | apply Kd.N_alloc | apply Kd.N_drewN | apply Kd.N_drew)); exact HO114.out) (Kd.R_base ho0) hb); have n4_ := Aside0.mk (Kd.V_elder' (by (with_reducible repeat (first | apply Kd.V_alloc | apply Kd.V_drewN | apply Kd.V_drew)); exact HL116_0.out) (Kd.R_base ho0) hb); have n5_ := Aside0.mk (Kd.V_elder' (by (with_reducible repeat (first | apply Kd.V_alloc | apply Kd.V_drewN | apply Kd.V_drew)); exact HL116_3.out) (Kd.R_base ho0) hb); have n6_ := Aside0.mk (Kd.V_elder' (by (with_reducible repeat (first | apply Kd.V_alloc | apply Kd.V_drewN | apply Kd.V_drew)); exact HL117_0.out) (Kd.R_base ho0) hb); have n7_ := Aside0.mk (Kd.V_elder' (by (with_reducible repeat (first | apply Kd.V_alloc | apply Kd.V_drewN | apply Kd.V_drew)); exact HL117_3.out) (Kd.R_base ho0) hb); have n8_ := Aside0.mk (Kd.V_elder' (by (with_reducible repeat (first | apply Kd.V_alloc | apply Kd.V_drewN | apply Kd.V_drew)); exact HL118_0.out) (Kd.R_base ho0) hb); have n9_ := Aside0.mk (Kd.V_elder' (by (with_reducible repeat (first | apply Kd.V_alloc | apply Kd.V_drewN | apply Kd.V_drew)); exact HL118_3.out) (Kd.R_base ho0) hb); have n10_ := Aside0.mk (Kd.V_elder' (by (with_reducible repeat (first | apply Kd.V_alloc | apply Kd.V_drewN | apply Kd.V_drew)); exact HO124.out) (Kd.R_base ho0) hb); have n11_ := Aside0.mk (Kd.R_lower ho0 (below_size (by repeat (first | (with_reducible first | exact HB.out | apply below_alloc | apply pw_below_drewN | apply below_drew1) | exact HB.out)))); have n12_ := Aside0.mk (Kd.C_below (by repeat (first | (with_reducible exact HR116_0.out) | (with_reducible refine Kd.C_alloc ?_ _) | (with_reducible refine Kd.C_drewN ?_ _) | (with_reducible refine Kd.C_drew ?_) | exact HR116_0.out)) hb); have n13_ := Aside0.mk (Kd.C_below (by repeat (first | (with_reducible exact HR116_3.out) | (with_reducible refine Kd.C_alloc ?_ _) | (with_reducible refine Kd.C_drewN ?_ _) | (with_reducible refine Kd.C_drew ?_) | exact HR116_3.out)) hb); have n14_ := Aside0.mk (Kd.C_below (by repeat (first | (with_reducible exact HR117_0.out) | (with_reducible refine Kd.C_alloc ?_ _) | (with_reducible refine Kd.C_drewN ?_ _) | (with_reducible refine Kd.C_drew ?_) | exact HR117_0.out)) hb); have n15_ := Aside0.mk (Kd.C_below (by repeat (first | (with_reducible exact HR117_3.out) | (with_reducible refine Kd.C_alloc ?_ _) | (with_reducible refine Kd.C_drewN ?_ _) | (with_reducible refine Kd.C_drew ?_) | exact HR117_3.out)) hb); have n16_ := Aside0.mk (Kd.C_below (by repeat (first | (with_reducible exact HR118_0.out) | (with_reducible refine Kd.C_alloc ?_ _) | (with_reducible refine Kd.C_drewN ?_ _) | (with_reducible refine Kd.C_drew ?_) | exact HR118_0.out)) hb); have n17_ := Aside0.mk (Kd.C_below (by repeat (first | (with_reducible exact HR118_3.out) | (with_reducible refine Kd.C_alloc ?_ _) | (with_reducible refine Kd.C_drewN ?_ _) | (with_reducible refine Kd.C_drew ?_) | exact HR118_3.out)) hb); have n18_ := Aside0.mk (below_step (by repeat (first | (with_reducible first | exact HB.out | apply below_alloc | apply pw_below_drewN | apply below_drew1) | exact HB.out)) hb); clear HO103; clear HO106; clear HO110; clear HO114; clear HL116_0; clear HL116_3; clear HL117_0; clear HL117_3; clear HL118_0; clear HL118_3; clear HO124; clear HR116_0; clear HR116_3; clear HR117_0; clear HR117_3; clear HR118_0; clear HR118_3; clear HB; have HO103 := n0_; have HO106 := n1_; have HO110 := n2_; have HO114 := n3_; have HL116_0 := n4_; have HL116_3 := n5_; have HL117_0 := n6_; have HL117_3 := n7_; have HL118_0 := n8_; have HL118_3 := n9_; have HO124 := n10_; have HO128 := n11_; have HR116_0 := n12_; have HR116_3 := n13_; have HR117_0 := n14_; have HR117_3 := n15_; have HR118_0 := n16_; have HR118_3 := n17_; have HB := n18_; clear n0_ n1_ n2_ n3_ n4_ n5_ n6_ n7_ n8_ n9_ n10_ n11_ n12_ n13_ n14_ n15_ n16_ n17_ n18_; (try clear hb); (try clear hb2); (try clear hk); (try clear hi); (try clear ho0); obtain ⟨Ao32, co32, eo32⟩ := Kd.R_slice HO128.out; subst eo32) | (go_at_call 35; (with_reducible refine (hunk_May.calls k _ _ y101 t129 _ ?side1 ?side2 A20.out).mono ?_); (case side1 => repeat (first | exact (Kd.R_reads' HO103.out).2.2 | (with_reducible refine Kd.C_alloc ?_ _) | (with_reducible refine Kd.C_drewN ?_ _) | (with_reducible refine Kd.C_drew ?_))); (case side2 => exact (Kd.R_reads' HO103.out).2.1); rintro e w33 ⟨rfl, hb⟩; have n0_ := Aside0.mk (Kd.R_below (by (with_reducible repeat (first | apply Kd.R_alloc | apply Kd.R_drewN | apply Kd.R_drew)); exact HO103.out) hb); have n1_ := Aside0.mk (Kd.N_below (by (with_reducible repeat (first | apply Kd.N_alloc | apply Kd.N_drewN | apply Kd.N_drew)); exact HO106.out) hb); have n2_ := Aside0.mk (Kd.N_below (by (with_reducible repeat (first | apply Kd.N_alloc | apply Kd.N_drewN | apply Kd.N_drew)); exact HO110.out) hb); have n3_ := Aside0.mk (Kd.N_below (by (with_reducible repeat (first | apply Kd.N_alloc | apply Kd.N_drewN | apply Kd.N_drew)); exact HO114.out) hb); have n4_ := Aside0.mk (Kd.V_below (by (with_reducible repeat (first | apply Kd.V_alloc | apply Kd.V_drewN | apply Kd.V_drew)); exact HL116_0.out) hb); have n5_ := Aside0.mk (Kd.V_below (by (with_reducible repeat (first | apply Kd.V_alloc | apply Kd.V_drewN | apply Kd.V_drew)); exact HL116_3.out) hb); have n6_ := Aside0.mk (Kd.V_below (by (with_reducible repeat (first | apply Kd.V_alloc | apply Kd.V_drewN | apply Kd.V_drew)); exact HL117_0.out) hb); have n7_ := Aside0.mk (Kd.V_below (by (with_reducible repeat (first | apply Kd.V_alloc | apply Kd.V_drewN | apply Kd.V_drew)); exact HL117_3.out) hb); have n8_ := Aside0.mk (Kd.V_below (by (with_reducible repeat (first | apply Kd.V_alloc | apply Kd.V_drewN | apply Kd.V_drew)); exact HL118_0.out) hb); have n9_ := Aside0.mk (Kd.V_below (by (with_reducible repeat (first | apply Kd.V_alloc | apply Kd.V_drewN | apply Kd.V_drew)); exact HL118_3.out) hb); have n10_ := Aside0.mk (Kd.V_below (by (with_reducible repeat (first | apply Kd.V_alloc | apply Kd.V_drewN | apply Kd.V_drew)); exact HO124.out) hb); have n11_ := Aside0.mk (Kd.R_below (by (with_reducible repeat (first | apply Kd.R_alloc | apply Kd.R_drewN | apply Kd.R_drew)); exact HO128.out) hb); have n12_ := Aside0.mk (Kd.C_below (by repeat (first | (with_reducible exact HR116_0.out) | (with_reducible refine Kd.C_alloc ?_ _) | (with_reducible refine Kd.C_drewN ?_ _) | (with_reducible refine Kd.C_drew ?_) | exact HR116_0.out)) hb); have n13_ := Aside0.mk (Kd.C_below (by repeat (first | (with_reducible exact HR116_3.out) | (with_reducible refine Kd.C_alloc ?_ _) | (with_reducible refine Kd.C_drewN ?_ _) | (with_reducible refine Kd.C_drew ?_) | exact HR116_3.out)) hb); have n14_ := Aside0.mk (Kd.C_below (by repeat (first | (with_reducible exact HR117_0.out) | (with_reducible refine Kd.C_alloc ?_ _) | (with_reducible refine Kd.C_drewN ?_ _) | (with_reducible refine Kd.C_drew ?_) | exact HR117_0.out)) hb); have n15_ := Aside0.mk (Kd.C_below (by repeat (first | (with_reducible exact HR117_3.out) | (with_reducible refine Kd.C_alloc ?_ _) | (with_reducible refine Kd.C_drewN ?_ _) | (with_reducible refine Kd.C_drew ?_) | exact HR117_3.out)) hb); have n16_ := Aside0.mk (Kd.C_below (by repeat (first | (with_reducible exact HR118_0.out) | (with_reducible refine Kd.C_alloc ?_ _) | (with_reducible refine Kd.C_drewN ?_ _) | (with_reducible refine Kd.C_drew ?_) | exact HR118_0.out)) hb); have n17_ := Aside0.mk (Kd.C_below (by repeat (first | (with_reducible exact HR118_3.out) | (with_reducible refine Kd.C_alloc ?_ _) | (with_reducible refine Kd.C_drewN ?_ _) | (with_reducible refine Kd.C_drew ?_) | exact HR118_3.out)) hb); have n18_ := Aside0.mk (below_step (by repeat (first | (with_reducible first | exact HB.out | apply below_alloc | apply pw_below_drewN | apply below_drew1) | exact HB.out)) hb); clear HO103; clear HO106; clear HO110; clear HO114; clear HL116_0; clear HL116_3; clear HL117_0; clear HL117_3; clear HL118_0; clear HL118_3; clear HO124; clear HO128; clear HR116_0; clear HR116_3; clear HR117_0; clear HR117_3; clear HR118_0; clear HR118_3; clear HB; have HO103 := n0_; have HO106 := n1_; have HO110 := n2_; have HO114 := n3_; have HL116_0 := n4_; have HL116_3 := n5_; have HL117_0 := n6_; have HL117_3 := n7_; have HL118_0 := n8_; have HL118_3 := n9_; have HO124 := n10_; have HO128 := n11_; have HR116_0 := n12_; have HR116_3 := n13_; have HR117_0 := n14_; have HR117_3 := n15_; have HR118_0 := n16_; have HR118_3 := n17_; have HB := n18_; clear n0_ n1_ n2_ n3_ n4_ n5_ n6_ n7_ n8_ n9_ n10_ n11_ n12_ n13_ n14_ n15_ n16_ n17_ n18_; (try clear hb); (try clear hb2); (try clear hk); (try clear hi)))
                              go_ret
                              exact ⟨by first | rfl | (simp [errW_none, errW_some] <;> rfl) | (simp [*, errW_none, errW_some] <;> rfl), by repeat (first | (with_reducible first | exact HB.out | apply below_alloc | apply pw_below_drewN | apply below_drew1) | exact HB.out)⟩
                            · rw [if_neg c19] at H
                              have c19b0 : ((t126.length : Int) == 1) = false := beq_eq_false_iff_ne.mpr c19
                              have c19b1 : ((t126.length : Int) != 1) = true := bne_iff_ne.mpr c19
                              exact absurd (Option.some.inj H) (by rw [hrt_]; decide)
                          · replace c17 := Bool.eq_false_iff.mpr c17
                            subst c17
                            have H1 : (some false) = some r := by rw [if_neg (show ¬ (false = true) by decide)] at H; exact H
                            clear H
                            have H := H1
                            clear H1
                            exact absurd (Option.some.inj H) (by rw [hrt_]; decide)
                        · rw [if_neg c15] at H
                          exact absurd H (by simp)
                      · rw [if_neg c14] at H
                        exact absurd H (by simp)
                    · rw [if_neg c13] at H
                      have c13b0 : ((t108.length : Int) == 0) = false := beq_eq_false_iff_ne.mpr c13
                      have c13b1 : ((t108.length : Int) != 0) = true := bne_iff_ne.mpr c13
                      have c13b2 : ¬ (t108 = []) := fun h_ => c13 (by rw [h_]; rfl)
                      exact absurd (Option.some.inj H) (by rw [hrt_]; decide)
                  · rw [if_neg c12] at H
                    have c12b0 : (((rd_T45 ((rd_T48 t104 0).f0) 0).f1) == 2) = false := beq_eq_false_iff_ne.mpr c12
                    have c12b1 : (((rd_T45 ((rd_T48 t104 0).f0) 0).f1) != 2) = true := bne_iff_ne.mpr c12
                    exact absurd (Option.some.inj H) (by rw [hrt_]; decide)
                · rw [if_neg c11] at H
                  exact absurd H (by simp)
              · rw [if_neg c10] at H
                have c10b0 : (((rd_T48 t104 0).f1.f1) == 3) = false := beq_eq_false_iff_ne.mpr c10
                have c10b1 : (((rd_T48 t104 0).f1.f1) != 3) = true := bne_iff_ne.mpr c10
                exact absurd (Option.some.inj H) (by rw [hrt_]; decide)
            · rw [if_neg c9] at H
              have c9b0 : ((((rd_T48 t104 0).f2).length : Int) == 3) = false := beq_eq_false_iff_ne.mpr c9
              have c9b1 : ((((rd_T48 t104 0).f2).length : Int) != 3) = true := bne_iff_ne.mpr c9
              exact absurd (Option.some.inj H) (by rw [hrt_]; decide)
          · rw [if_neg c8] at H
            exact absurd H (by simp)
        · rw [if_neg c7] at H
          have c7b0 : ((t104.length : Int) == 1) = false := beq_eq_false_iff_ne.mpr c7
          have c7b1 : ((t104.length : Int) != 1) = true := bne_iff_ne.mpr c7
          exact absurd (Option.some.inj H) (by rw [hrt_]; decide)
      · rw [if_neg c6] at H
        have c6b0 : (t115 == 1) = false := beq_eq_false_iff_ne.mpr c6
        have c6b1 : (t115 != 1) = true := bne_iff_ne.mpr c6
        exact absurd (Option.some.inj H) (by rw [hrt_]; decide)
    · rw [if_neg c5] at H
      have c5b0 : (t111 == 0) = false := beq_eq_false_iff_ne.mpr c5
      have c5b1 : (t111 != 0) = true := bne_iff_ne.mpr c5
      exact absurd (Option.some.inj H) (by rw [hrt_]; decide)
  · rw [if_neg c4] at H
    have c4b0 : (t107 == 0) = false := beq_eq_false_iff_ne.mpr c4
    have c4b1 : (t107 != 0) = true := bne_iff_ne.mpr c4
    exact absurd (Option.some.inj H) (by rw [hrt_]; decide)
end Go.Proofs.YthcnfflhejogfaaDoor.X
-- part XLn3
namespace Go.Proofs.YthcnfflhejogfaaDoor.X
open Go.RowKit Go.Proofs.YthcnfflhejogfaaDoorW.PrintWords Go.Proofs.YthcnfflhejogfaaDoorW.PrintLast Go.Proofs.YthcnfflhejogfaaDoorW.PrintMore
attribute [local go_sem] max2_int min2_int max_two min_two max_three min_three max_four min_four   -- for this text's walks alone
set_option linter.unusedVariables false
set_option linter.unusedSimpArgs false
mutual
def sennitlaw21_HunkCovers.j0 : Nat → List (S57) → Int → Bool → Bool → Bool → Option (Bool)
  | 0, _, _, _, _, _ => none
  | k + 1, x0, x1, x2, x7, x25 => if x25 = true then (some x7) else ((hunk_Hunks.f x0 (wrap64 (x1)) x2).bind fun bt143 => (sennitlaw21_HunkCovers.l0 k x0 x2 x7 bt143.1 bt143.2 ([] : List (S57)) 0))
def sennitlaw21_HunkCovers.l0 : Nat → List (S57) → Bool → Bool → List (S48) → Int → List (S57) → Int → Option (Bool)
  | 0, _, _, _, _, _, _, _ => none
  | k + 1, x0, x2, x7, x8, x9, x10, x11 => if x11 < (x8.length : Int) then (sennitlaw21_HunkCovers.l1 k x0 x2 x7 x8 x9 x10 x11 0) else ((sennitref21_Groups.f k x0).bind fun t156 => (sennitlaw21_HunkCovers.l2 k x0 x2 x7 x9 x10 ([] : List (S57)) t156 0))
def sennitlaw21_HunkCovers.l1 : Nat → List (S57) → Bool → Bool → List (S48) → Int → List (S57) → Int → Int → Option (Bool)
  | 0, _, _, _, _, _, _, _, _ => none
  | k + 1, x0, x2, x7, x8, x9, x10, x11, x12 => if 0 ≤ x11 then (if x11 < (x8.length : Int) then (if x12 < (((rd_T48 x8 x11).f2).length : Int) then (if 0 ≤ x12 then ((sennitref21_Marked.f k ((rd_T57 ((rd_T48 x8 x11).f2) x12).f0) ((rd_T57 ((rd_T48 x8 x11).f2) x12).f1)).bind fun t150 => (if t150 = true then (if x10.length < 4398046511104 then (sennitlaw21_HunkCovers.l1 k x0 x2 x7 x8 x9 (x10 ++ [(⟨(rd_T57 ((rd_T48 x8 x11).f2) x12).f0, (rd_T57 ((rd_T48 x8 x11).f2) x12).f1⟩ : S57)]) x11 (wrap64 (x12 + 1))) else (none)) else (sennitlaw21_HunkCovers.l1 k x0 x2 x7 x8 x9 x10 x11 (wrap64 (x12 + 1))))) else (none)) else (sennitlaw21_HunkCovers.l0 k x0 x2 x7 x8 x9 x10 (wrap64 (x11 + 1)))) else (none)) else (none)
def sennitlaw21_HunkCovers.l2 : Nat → List (S57) → Bool → Bool → Int → List (S57) → List (S57) → List (S45) → Int → Option (Bool)
  | 0, _, _, _, _, _, _, _, _ => none
  | k + 1, x0, x2, x7, x9, x10, x13, x14, x15 => if x15 < (x14.length : Int) then (if 0 ≤ x15 then (if 0 ≤ ((rd_T45 x14 x15).f0) then (if ((rd_T45 x14 x15).f0) ≤ ((rd_T45 x14 x15).f1) then (if ((rd_T45 x14 x15).f1) ≤ (x0.length : Int) then ((some ((x0.take (((rd_T45 x14 x15).f1) : Int).toNat).drop (((rd_T45 x14 x15).f0) : Int).toNat : List (S57))).bind fun y161 => (if x2 = true then ((sennitref21_Dull.f k y161).bind fun t165 => (if t165 = true then (sennitlaw21_HunkCovers.l2 k x0 x2 x7 x9 x10 x13 x14 (wrap64 (x15 + 1))) else (if x13.length + y161.length < 4398046511104 then (sennitlaw21_HunkCovers.l2 k x0 x2 x7 x9 x10 (x13 ++ y161) x14 (wrap64 (x15 + 1))) else (none)))) else (if x13.length + y161.length < 4398046511104 then (sennitlaw21_HunkCovers.l2 k x0 x2 x7 x9 x10 (x13 ++ y161) x14 (wrap64 (x15 + 1))) else (none)))) else (none)) else (none)) else (none)) else (none)) else (if x7 = true then (if x9 = 0 then ((sennitref19_Same.f k x10 x13).bind fun t172 => (some t172)) else (some false)) else (some false))
end
def sennitlaw21_HunkCovers.f (k : Nat) (l0 : List (S57)) (a1 : Int) (a2 : Bool) : Option (Bool) := (sennitlaw21_awake.f k).bind fun t140 => ((sennitref21_Few.f k l0).bind fun t141 => (if t141 = true then ((sennitref21_May.f k l0).bind fun t142 => (sennitlaw21_HunkCovers.j0 k l0 a1 a2 t140 (!t142))) else (sennitlaw21_HunkCovers.j0 k l0 a1 a2 t140 true)))
set_option maxHeartbeats 8000000 in
set_option maxRecDepth 100000 in
theorem sennitlaw21_HunkCovers.calls (k : Nat) (A0 : Option Addr) (c0 : Nat) (l0 : List (S57)) (a1 : Int) (a2 : Bool) (r : Bool) (w : World) (hr0 : Kd.C k57 w A0 l0.length l0) (hc0 : l0.length ≤ c0) (h : sennitlaw21_HunkCovers.f k l0 a1 a2 = some r) (HMX : Aside0 (MaxAt w) := by exact ⟨MaxAt.go HMX (by repeat (first | (with_reducible first | exact HB.out | apply below_alloc | apply pw_below_drewN | apply below_drew1) | exact HB.out))⟩) :
    Calls Tryd.prog 10 #[.slice A0 l0.length c0, .int .u8 a1, .bool a2] w fun e w' => e = .returned (.bool r) ∧ Below w.heap.size w w' := by
  have hu57 := Tryd.underlying57
  have HR0 := Aside0.mk hr0
  have HC0 := Aside0.mk hc0
  clear hr0 hc0
  have HB := Aside0.mk (Below.refl w.heap.size w)
  have H : ((sennitlaw21_awake.f k).bind fun t140 => ((sennitref21_Few.f k l0).bind fun t141 => (if t141 = true then ((sennitref21_May.f k l0).bind fun t142 => (sennitlaw21_HunkCovers.j0 k l0 a1 a2 t140 (!t142))) else (sennitlaw21_HunkCovers.j0 k l0 a1 a2 t140 true)))) = some r := h
  clear h
  replace H := Option.bind_eq_some_iff.mp H
  obtain ⟨t140, A40, H⟩ := H
  replace H : ((sennitref21_Few.f k l0).bind fun t141 => (if t141 = true then ((sennitref21_May.f k l0).bind fun t142 => (sennitlaw21_HunkCovers.j0 k l0 a1 a2 t140 (!t142))) else (sennitlaw21_HunkCovers.j0 k l0 a1 a2 t140 true))) = some r := H
  have A4 := Aside0.mk A40
  clear A40
  have HC5 := Aside0.mk H
  clear H
  go_enter Tryd.func10, Tryd.ntmps10
  go_upto_region 2 with (first | (go_at_call 26; (with_reducible refine (sennitlaw21_awake.calls k  t140 _ A4.out).mono ?_); rintro e w6 ⟨rfl, hb⟩; have n0_ := Aside0.mk (below_step (by repeat (first | (with_reducible first | exact HB.out | apply below_alloc | apply pw_below_drewN | apply below_drew1) | exact HB.out)) hb); clear HB; have HB := n0_; clear n0_; (try clear hb); (try clear hb2); (try clear hk); (try clear hi)))
  repeat (go_quiet (first | (go_at_call 26; (with_reducible refine (sennitlaw21_awake.calls k  t140 _ A4.out).mono ?_); rintro e w6 ⟨rfl, hb⟩; have n0_ := Aside0.mk (below_step (by repeat (first | (with_reducible first | exact HB.out | apply below_alloc | apply pw_below_drewN | apply below_drew1) | exact HB.out)) hb); clear HB; have HB := n0_; clear n0_; (try clear hb); (try clear hb2); (try clear hk); (try clear hi))); go_upto_region 2 with (first | (go_at_call 26; (with_reducible refine (sennitlaw21_awake.calls k  t140 _ A4.out).mono ?_); rintro e w6 ⟨rfl, hb⟩; have n0_ := Aside0.mk (below_step (by repeat (first | (with_reducible first | exact HB.out | apply below_alloc | apply pw_below_drewN | apply below_drew1) | exact HB.out)) hb); clear HB; have HB := n0_; clear n0_; (try clear hb); (try clear hb2); (try clear hk); (try clear hi))))
  (try simp only [Act.put, List.setIfInBounds_toArray, List.set_cons_zero, List.set_cons_succ])
  go_cut [25] (fun v25 wc => ∃ (kq : Nat) (x25_4 : Bool), v25 = .bool x25_4 ∧ Aside0 (sennitlaw21_HunkCovers.j0 kq l0 a1 a2 t140 x25_4 = some r) ∧ Aside0 (kq ≤ k) ∧ Aside0 (Below w.heap.size w wc))
  case first =>
    have H := HC5.out
    clear HC5
    replace H := Option.bind_eq_some_iff.mp H
    obtain ⟨t141, A70, H⟩ := H
    replace H : (if t141 = true then ((sennitref21_May.f k l0).bind fun t142 => (sennitlaw21_HunkCovers.j0 k l0 a1 a2 t140 (!t142))) else (sennitlaw21_HunkCovers.j0 k l0 a1 a2 t140 true)) = some r := H
    have A7 := Aside0.mk A70
    clear A70
    by_cases c8 : t141 = true
    · subst c8
      have H1 : ((sennitref21_May.f k l0).bind fun t142 => (sennitlaw21_HunkCovers.j0 k l0 a1 a2 t140 (!t142))) = some r := by rw [if_pos rfl] at H; exact H
      clear H
      have H := H1
      clear H1
      replace H := Option.bind_eq_some_iff.mp H
      obtain ⟨t142, A90, H⟩ := H
      replace H : (sennitlaw21_HunkCovers.j0 k l0 a1 a2 t140 (!t142)) = some r := H
      have A9 := Aside0.mk A90
      clear A90
      have H' := Aside0.mk H
      clear H
      go_wp2_with (first | (go_at_call 27; (with_reducible refine (sennitref21_Few.calls k _ _ l0 true _ ?side1 ?side2 A7.out).mono ?_); (case side1 => repeat (first | exact (Kd.C_below HR0.out HB.out) | (with_reducible refine Kd.C_alloc ?_ _) | (with_reducible refine Kd.C_drewN ?_ _) | (with_reducible refine Kd.C_drew ?_))); (case side2 => exact HC0.out); rintro e w' ⟨rfl, ⟨nd, rfl⟩⟩; (try first | exact ⟨rfl, _, World.drewN_drewN _ _ _⟩ | exact ⟨rfl, _, Eq.trans (World.drewN_drewN _ _ _) (congrArg (World.drewN _) (Nat.add_assoc _ _ _))⟩)) | (go_at_call 30; (with_reducible refine (sennitref21_May.calls k _ _ l0 t142 _ ?side1 ?side2 A9.out).mono ?_); (case side1 => repeat (first | exact (Kd.C_below HR0.out (by repeat (first | (with_reducible first | exact HB.out | apply below_alloc | apply pw_below_drewN | apply below_drew1) | exact HB.out))) | (with_reducible refine Kd.C_alloc ?_ _) | (with_reducible refine Kd.C_drewN ?_ _) | (with_reducible refine Kd.C_drew ?_))); (case side2 => exact HC0.out); rintro e w10 ⟨rfl, hb⟩; have n0_ := Aside0.mk (below_step (by repeat (first | (with_reducible first | exact HB.out | apply below_alloc | apply pw_below_drewN | apply below_drew1) | exact HB.out)) hb); clear HB; have HB := n0_; clear n0_; (try clear hb); (try clear hb2); (try clear hk); (try clear hi)))
      repeat (go_quiet (first | (go_at_call 27; (with_reducible refine (sennitref21_Few.calls k _ _ l0 true _ ?side1 ?side2 A7.out).mono ?_); (case side1 => repeat (first | exact (Kd.C_below HR0.out HB.out) | (with_reducible refine Kd.C_alloc ?_ _) | (with_reducible refine Kd.C_drewN ?_ _) | (with_reducible refine Kd.C_drew ?_))); (case side2 => exact HC0.out); rintro e w' ⟨rfl, ⟨nd, rfl⟩⟩; (try first | exact ⟨rfl, _, World.drewN_drewN _ _ _⟩ | exact ⟨rfl, _, Eq.trans (World.drewN_drewN _ _ _) (congrArg (World.drewN _) (Nat.add_assoc _ _ _))⟩)) | (go_at_call 30; (with_reducible refine (sennitref21_May.calls k _ _ l0 t142 _ ?side1 ?side2 A9.out).mono ?_); (case side1 => repeat (first | exact (Kd.C_below HR0.out (by repeat (first | (with_reducible first | exact HB.out | apply below_alloc | apply pw_below_drewN | apply below_drew1) | exact HB.out))) | (with_reducible refine Kd.C_alloc ?_ _) | (with_reducible refine Kd.C_drewN ?_ _) | (with_reducible refine Kd.C_drew ?_))); (case side2 => exact HC0.out); rintro e w10 ⟨rfl, hb⟩; have n0_ := Aside0.mk (below_step (by repeat (first | (with_reducible first | exact HB.out | apply below_alloc | apply pw_below_drewN | apply below_drew1) | exact HB.out)) hb); clear HB; have HB := n0_; clear n0_; (try clear hb); (try clear hb2); (try clear hk); (try clear hi))); try go_wp2_with (first | (go_at_call 27; (with_reducible refine (sennitref21_Few.calls k _ _ l0 true _ ?side1 ?side2 A7.out).mono ?_); (case side1 => repeat (first | exact (Kd.C_below HR0.out HB.out) | (with_reducible refine Kd.C_alloc ?_ _) | (with_reducible refine Kd.C_drewN ?_ _) | (with_reducible refine Kd.C_drew ?_))); (case side2 => exact HC0.out); rintro e w' ⟨rfl, ⟨nd, rfl⟩⟩; (try first | exact ⟨rfl, _, World.drewN_drewN _ _ _⟩ | exact ⟨rfl, _, Eq.trans (World.drewN_drewN _ _ _) (congrArg (World.drewN _) (Nat.add_assoc _ _ _))⟩)) | (go_at_call 30; (with_reducible refine (sennitref21_May.calls k _ _ l0 t142 _ ?side1 ?side2 A9.out).mono ?_); (case side1 => repeat (first | exact (Kd.C_below HR0.out (by repeat (first | (with_reducible first | exact HB.out | apply below_alloc | apply pw_below_drewN | apply below_drew1) | exact HB.out))) | (with_reducible refine Kd.C_alloc ?_ _) | (with_reducible refine Kd.C_drewN ?_ _) | (with_reducible refine Kd.C_drew ?_))); (case side2 => exact HC0.out); rintro e w10 ⟨rfl, hb⟩; have n0_ := Aside0.mk (below_step (by repeat (first | (with_reducible first | exact HB.out | apply below_alloc | apply pw_below_drewN | apply below_drew1) | exact HB.out)) hb); clear HB; have HB := n0_; clear n0_; (try clear hb); (try clear hb2); (try clear hk); (try clear hi))))
      go_meet
      case rel => exact ⟨_, (!t142), (by first | rfl | (simp; done) | (simp [*]; done)), H', ⟨by first | omega | exact Nat.le_refl _⟩, ⟨by repeat (first | (with_reducible first | exact HB.out | apply below_alloc | apply pw_below_drewN | apply below_drew1) | exact HB.out)⟩⟩
    · replace c8 := Bool.eq_false_iff.mpr c8
      subst c8
      have H1 : (sennitlaw21_HunkCovers.j0 k l0 a1 a2 t140 true) = some r := by rw [if_neg (show ¬ (false = true) by decide)] at H; exact H
      clear H
      have H := H1
      clear H1
      have H' := Aside0.mk H
      clear H
      go_wp2_with (first | (go_at_call 27; (with_reducible refine (sennitref21_Few.calls k _ _ l0 false _ ?side1 ?side2 A7.out).mono ?_); (case side1 => repeat (first | exact (Kd.C_below HR0.out HB.out) | (with_reducible refine Kd.C_alloc ?_ _) | (with_reducible refine Kd.C_drewN ?_ _) | (with_reducible refine Kd.C_drew ?_))); (case side2 => exact HC0.out); rintro e w' ⟨rfl, ⟨nd, rfl⟩⟩; (try first | exact ⟨rfl, _, World.drewN_drewN _ _ _⟩ | exact ⟨rfl, _, Eq.trans (World.drewN_drewN _ _ _) (congrArg (World.drewN _) (Nat.add_assoc _ _ _))⟩)))
      repeat (go_quiet (first | (go_at_call 27; (with_reducible refine (sennitref21_Few.calls k _ _ l0 false _ ?side1 ?side2 A7.out).mono ?_); (case side1 => repeat (first | exact (Kd.C_below HR0.out HB.out) | (with_reducible refine Kd.C_alloc ?_ _) | (with_reducible refine Kd.C_drewN ?_ _) | (with_reducible refine Kd.C_drew ?_))); (case side2 => exact HC0.out); rintro e w' ⟨rfl, ⟨nd, rfl⟩⟩; (try first | exact ⟨rfl, _, World.drewN_drewN _ _ _⟩ | exact ⟨rfl, _, Eq.trans (World.drewN_drewN _ _ _) (congrArg (World.drewN _) (Nat.add_assoc _ _ _))⟩))); try go_wp2_with (first | (go_at_call 27; (with_reducible refine (sennitref21_Few.calls k _ _ l0 false _ ?side1 ?side2 A7.out).mono ?_); (case side1 => repeat (first | exact (Kd.C_below HR0.out HB.out) | (with_reducible refine Kd.C_alloc ?_ _) | (with_reducible refine Kd.C_drewN ?_ _) | (with_reducible refine Kd.C_drew ?_))); (case side2 => exact HC0.out); rintro e w' ⟨rfl, ⟨nd, rfl⟩⟩; (try first | exact ⟨rfl, _, World.drewN_drewN _ _ _⟩ | exact ⟨rfl, _, Eq.trans (World.drewN_drewN _ _ _) (congrArg (World.drewN _) (Nat.add_assoc _ _ _))⟩))))
      go_meet
      case rel => exact ⟨_, (true), (by first | rfl | (simp; done) | (simp [*]; done)), H', ⟨by first | omega | exact Nat.le_refl _⟩, ⟨by repeat (first | (with_reducible first | exact HB.out | apply below_alloc | apply pw_below_drewN | apply below_drew1) | exact HB.out)⟩⟩
  case rest =>
    clear HC5
    try clear c1
    try clear p2
    try clear c8
    try clear c10
    obtain ⟨kq, x25_4, rfl, HA, HJ4, HB⟩ := hcut
    cases kq with
    | zero => exact absurd HA.out (by simp [sennitlaw21_HunkCovers.j0])
    | succ kj4 =>
      have H := HA.out
      clear HA
      simp only [sennitlaw21_HunkCovers.j0] at H
      by_cases c11 : x25_4 = true
      · subst c11
        have H1 : (some t140) = some r := by rw [if_pos rfl] at H; exact H
        clear H
        have H := H1
        clear H1
        obtain rfl := Option.some.inj H
        go_wp2
        repeat (go_quiet (fail); try go_wp2)
        go_ret
        exact ⟨by first | rfl | (simp [errW_none, errW_some] <;> rfl) | (simp [*, errW_none, errW_some] <;> rfl), by repeat (first | (with_reducible first | exact HB.out | apply below_alloc | apply pw_below_drewN | apply below_drew1) | exact HB.out)⟩
      · replace c11 := Bool.eq_false_iff.mpr c11
        subst c11
        have H1 : ((hunk_Hunks.f l0 (wrap64 (a1)) a2).bind fun bt143 => (sennitlaw21_HunkCovers.l0 kj4 l0 a2 t140 bt143.1 bt143.2 ([] : List (S57)) 0)) = some r := by rw [if_neg (show ¬ (false = true) by decide)] at H; exact H
        clear H
        have H := H1
        clear H1
        replace H := Option.bind_eq_some_iff.mp H
        obtain ⟨⟨t143, t146⟩, A120, H⟩ := H
        replace H : (sennitlaw21_HunkCovers.l0 kj4 l0 a2 t140 t143 t146 ([] : List (S57)) 0) = some r := H
        have A12 := Aside0.mk A120
        clear A120
        have H' := Aside0.mk H
        clear H
        go_wp2_with (first | (go_at_call 28; (with_reducible refine (hunk_Hunks.calls (fun k_ => k_ < w.heap.size) _ _ l0 (wrap64 (a1)) a2 t143 t146 _ ?side1 A12.out).mono ?_); (case side1 => exact Kd.V_mk HC0.out (Kd.F_below (Kd.C_F k57_heap HR0.out) (by repeat (first | (with_reducible first | exact HB.out | apply below_alloc | apply pw_below_drewN | apply below_drew1) | exact HB.out)))); rintro e w13 ⟨v144, rfl, ho0, hb⟩; have n0_ := Aside0.mk (Kd.N_lower (Kd.N_mono (ok' := fun k_ => True) ho0 (fun k_ hk_ => trivial)) (below_size (by repeat (first | (with_reducible first | exact HB.out | apply below_alloc | apply pw_below_drewN | apply below_drew1) | exact HB.out)))); have n1_ := Aside0.mk (below_step (by repeat (first | (with_reducible first | exact HB.out | apply below_alloc | apply pw_below_drewN | apply below_drew1) | exact HB.out)) hb); clear HB; have HO145 := n0_; have HB := n1_; clear n0_ n1_; (try clear hb); (try clear hb2); (try clear hk); (try clear hi); (try clear ho0)))
        repeat (go_quiet (first | (go_at_call 28; (with_reducible refine (hunk_Hunks.calls (fun k_ => k_ < w.heap.size) _ _ l0 (wrap64 (a1)) a2 t143 t146 _ ?side1 A12.out).mono ?_); (case side1 => exact Kd.V_mk HC0.out (Kd.F_below (Kd.C_F k57_heap HR0.out) (by repeat (first | (with_reducible first | exact HB.out | apply below_alloc | apply pw_below_drewN | apply below_drew1) | exact HB.out)))); rintro e w13 ⟨v144, rfl, ho0, hb⟩; have n0_ := Aside0.mk (Kd.N_lower (Kd.N_mono (ok' := fun k_ => True) ho0 (fun k_ hk_ => trivial)) (below_size (by repeat (first | (with_reducible first | exact HB.out | apply below_alloc | apply pw_below_drewN | apply below_drew1) | exact HB.out)))); have n1_ := Aside0.mk (below_step (by repeat (first | (with_reducible first | exact HB.out | apply below_alloc | apply pw_below_drewN | apply below_drew1) | exact HB.out)) hb); clear HB; have HO145 := n0_; have HB := n1_; clear n0_ n1_; (try clear hb); (try clear hb2); (try clear hk); (try clear hi); (try clear ho0))); try go_wp2_with (first | (go_at_call 28; (with_reducible refine (hunk_Hunks.calls (fun k_ => k_ < w.heap.size) _ _ l0 (wrap64 (a1)) a2 t143 t146 _ ?side1 A12.out).mono ?_); (case side1 => exact Kd.V_mk HC0.out (Kd.F_below (Kd.C_F k57_heap HR0.out) (by repeat (first | (with_reducible first | exact HB.out | apply below_alloc | apply pw_below_drewN | apply below_drew1) | exact HB.out)))); rintro e w13 ⟨v144, rfl, ho0, hb⟩; have n0_ := Aside0.mk (Kd.N_lower (Kd.N_mono (ok' := fun k_ => True) ho0 (fun k_ hk_ => trivial)) (below_size (by repeat (first | (with_reducible first | exact HB.out | apply below_alloc | apply pw_below_drewN | apply below_drew1) | exact HB.out)))); have n1_ := Aside0.mk (below_step (by repeat (first | (with_reducible first | exact HB.out | apply below_alloc | apply pw_below_drewN | apply below_drew1) | exact HB.out)) hb); clear HB; have HO145 := n0_; have HB := n1_; clear n0_ n1_; (try clear hb); (try clear hb2); (try clear hk); (try clear hi); (try clear ho0))))
        go_loopg [10, 11] kj4 (fun kq v10 v11 w' => ∃ (x10_2 : List (S57)) (x11_2 : Int), v11 = .int .i64 x11_2 ∧ Aside0 (sennitlaw21_HunkCovers.l0 kq l0 a2 t140 t143 t146 x10_2 x11_2 = some r) ∧ Aside0 (kq ≤ kj4) ∧ Aside0 (Kd.N k48 48 w' w.heap.size (fun k_ => some k_ ≠ (v10 : Value).ownBlock) v144 t143) ∧ Aside0 (Kd.R k57 57 w' w.heap.size (fun _ => True) v10 x10_2) ∧ Aside0 (Below w.heap.size w w'))
        case atStart => exact ⟨(([] : List (S57))), (0), (by first | rfl | (simp; done) | (simp [*]; done)), H', ⟨Nat.le_refl _⟩, ⟨by (with_reducible repeat (first | apply Kd.N_alloc | apply Kd.N_drewN | apply Kd.N_drew)); exact Kd.N_mono HO145.out (fun _ hk => (by simp [Value.ownBlock]))⟩, ⟨by first | exact Kd.R_nil _ _ _ _ _ | exact Kd.N_nil _ _ _ _ _ | exact Kd.V_nil _ _ _ _ _ | exact Kd.Q_nil _ _ _ _ _ | exact Kd.S_nil _ _ _ _ _⟩, ⟨by repeat (first | (with_reducible first | exact HB.out | apply below_alloc | apply pw_below_drewN | apply below_drew1) | exact HB.out)⟩⟩
        case round =>
          clear H'
          try clear c1
          try clear p2
          try clear p6
          try clear c8
          try clear c10
          try clear c11
          try clear p2
          obtain ⟨x10_2, x11_2, rfl, HA, HK2, HO_8, HO_10, HB⟩ := hrel
          cases gk with
          | zero => exact absurd HA.out (by simp [sennitlaw21_HunkCovers.l0])
          | succ k2 =>
            have H := HA.out
            clear HA
            simp only [sennitlaw21_HunkCovers.l0] at H
            by_cases c14 : x11_2 < (t143.length : Int)
            · rw [if_pos c14] at H
              have c14b0 : decide (x11_2 < (t143.length : Int)) = true := decide_eq_true c14
              clear c14
              have H' := Aside0.mk H
              clear H
              obtain ⟨Ao15, co15, eo15⟩ := Kd.N_slice HO_8.out
              subst eo15
              go_wp2
              repeat (go_quiet (fail); try go_wp2)
              go_loopg [10, 12] k2 (fun kq v10 v12 w' => ∃ (x10_3 : List (S57)) (x12_3 : Int), v12 = .int .i64 x12_3 ∧ Aside0 (sennitlaw21_HunkCovers.l1 kq l0 a2 t140 t143 t146 x10_3 x11_2 x12_3 = some r) ∧ Aside0 (kq ≤ k2) ∧ Aside0 (Kd.N k48 48 w' w.heap.size (fun k_ => some k_ ≠ (v10 : Value).ownBlock) (.slice Ao15 t143.length co15) t143) ∧ Aside0 (Kd.R k57 57 w' w.heap.size (fun _ => True) v10 x10_3) ∧ Aside0 (Below w.heap.size w w'))
              case atStart => exact ⟨(x10_2), (0), (by first | rfl | (simp; done) | (simp [*]; done)), H', ⟨Nat.le_refl _⟩, ⟨by (with_reducible repeat (first | apply Kd.N_alloc | apply Kd.N_drewN | apply Kd.N_drew)); exact HO_8.out⟩, ⟨by (with_reducible repeat (first | apply Kd.R_alloc | apply Kd.R_drewN | apply Kd.R_drew)); exact HO_10.out⟩, ⟨by repeat (first | (with_reducible first | exact HB.out | apply below_alloc | apply pw_below_drewN | apply below_drew1) | exact HB.out)⟩⟩
              case round =>
                clear H'
                try clear c1
                try clear p2
                try clear p6
                try clear c8
                try clear c10
                try clear c11
                try clear c14
                try clear c14b0
                try clear p2
                try clear p6
                obtain ⟨x10_3, x12_3, rfl, HA, HK3, HO_8, HO_10, HB⟩ := hrel
                cases gk with
                | zero => exact absurd HA.out (by simp [sennitlaw21_HunkCovers.l1])
                | succ k3 =>
                  have H := HA.out
                  clear HA
                  simp only [sennitlaw21_HunkCovers.l1] at H
                  by_cases c16 : 0 ≤ x11_2
                  · rw [if_pos c16] at H
                    have c16b0 : decide (0 ≤ x11_2) = true := decide_eq_true c16
                    clear c16
                    by_cases c17 : x11_2 < (t143.length : Int)
                    · rw [if_pos c17] at H
                      have c17b0 : decide (x11_2 < (t143.length : Int)) = true := decide_eq_true c17
                      clear c17
                      by_cases c18 : x12_3 < (((rd_T48 t143 x11_2).f2).length : Int)
                      · rw [if_pos c18] at H
                        have c18b0 : decide (x12_3 < (((rd_T48 t143 x11_2).f2).length : Int)) = true := decide_eq_true c18
                        clear c18
                        by_cases c19 : 0 ≤ x12_3
                        · rw [if_pos c19] at H
                          have c19b0 : decide (0 ≤ x12_3) = true := decide_eq_true c19
                          clear c19
                          replace H := Option.bind_eq_some_iff.mp H
                          obtain ⟨t150, A200, H⟩ := H
                          replace H : (if t150 = true then (if x10_3.length < 4398046511104 then (sennitlaw21_HunkCovers.l1 k3 l0 a2 t140 t143 t146 (x10_3 ++ [(⟨(rd_T57 ((rd_T48 t143 x11_2).f2) x12_3).f0, (rd_T57 ((rd_T48 t143 x11_2).f2) x12_3).f1⟩ : S57)]) x11_2 (wrap64 (x12_3 + 1))) else (none)) else (sennitlaw21_HunkCovers.l1 k3 l0 a2 t140 t143 t146 x10_3 x11_2 (wrap64 (x12_3 + 1)))) = some r := H
                          have A20 := Aside0.mk A200
                          clear A200
                          by_cases c21 : t150 = true
                          · subst c21
                            have H1 : (if x10_3.length < 4398046511104 then (sennitlaw21_HunkCovers.l1 k3 l0 a2 t140 t143 t146 (x10_3 ++ [(⟨(rd_T57 ((rd_T48 t143 x11_2).f2) x12_3).f0, (rd_T57 ((rd_T48 t143 x11_2).f2) x12_3).f1⟩ : S57)]) x11_2 (wrap64 (x12_3 + 1))) else (none)) = some r := by rw [if_pos rfl] at H; exact H
                            clear H
                            have H := H1
                            clear H1
                            by_cases c22 : x10_3.length < 4398046511104
                            · rw [if_pos c22] at H
                              have LMc22 := Aside0.mk c22
                              clear c22
                              obtain ⟨y153, hy153⟩ : ∃ y_ : List (S57), y_ = (x10_3 ++ [(⟨(rd_T57 ((rd_T48 t143 x11_2).f2) x12_3).f0, (rd_T57 ((rd_T48 t143 x11_2).f2) x12_3).f1⟩ : S57)]) := ⟨_, rfl⟩
                              replace H : (sennitlaw21_HunkCovers.l1 k3 l0 a2 t140 t143 t146 y153 x11_2 (wrap64 (x12_3 + 1))) = some r := by first | (rw [hy153]; with_reducible exact H) | (have H2_ := (Option.bind_some _ _).symm.trans H; rw [hy153]; with_reducible exact H2_) | (have H2_ := (Option.bind_some _ _).symm.trans H; with_reducible exact H2_) | with_reducible exact H | (rw [hy153]; exact H) | exact H
                              have Ny153 := Aside0.mk hy153
                              clear hy153
                              have H' := Aside0.mk H
                              clear H
                              have p147 : 0 ≤ (x11_2 : Int) := of_decide_eq_true (by first | (with_reducible assumption) | assumption)
                              have q147 : x11_2 < (t143.length : Int) := of_decide_eq_true (by first | (with_reducible assumption) | assumption)
                              obtain ⟨ad147, A147_0, c147_0, A147_3, c147_3, e147, hx147_0, hx147_1, hx147_2, hx147_3, hl147_0, hi147_0, hl147_3, hi147_3⟩ := at_T48 (Kd.N_reads' HO_8.out).2.2 x11_2 p147 q147
                              cases e147
                              obtain ⟨ce147, hce147, hMe147, hcc147⟩ := Kd.N_get HO_8.out z48 x11_2 p147 (by first | exact q147 | exact of_decide_eq_true (by first | (with_reducible assumption) | assumption) | (have e_ := (Kd.N_reads' HO_8.out).1; omega))
                              obtain ⟨ua147_0, uc147_0, ua147_3, uc147_3, rfl, ul147_0, ge147_0, ul147_3, ge147_3⟩ := k48_openF hMe147
                              have hv147_0 := hcc147 0 _ rfl
                              rw [Nat.add_zero] at hv147_0
                              replace hv147_0 := Option.some.inj (hv147_0.symm.trans hx147_0)
                              injection hv147_0 with hva_ hvn_ hvc_
                              rw [hva_] at ge147_0
                              rw [hvc_] at ul147_0
                              have HL147_0 := Aside0.mk (show Kd.V k45 45 _ w.heap.size _ _ ((rd_T48 t143 x11_2).f0) from Kd.V_mk ul147_0 ge147_0)
                              clear hva_ hvn_ hvc_ ge147_0 ul147_0
                              have hv147_3 := hcc147 3 _ rfl
                              rw [add_field _ _ 3 (by omega)] at hv147_3
                              replace hv147_3 := Option.some.inj (hv147_3.symm.trans hx147_3)
                              injection hv147_3 with hva_ hvn_ hvc_
                              rw [hva_] at ge147_3
                              rw [hvc_] at ul147_3
                              have HL147_3 := Aside0.mk (show Kd.V k57 57 _ w.heap.size _ _ ((rd_T48 t143 x11_2).f2) from Kd.V_mk ul147_3 ge147_3)
                              clear hva_ hvn_ hvc_ ge147_3 ul147_3
                              clear hcc147 hce147
                              have HR147_0 := Aside0.mk hi147_0
                              have HC147_0 := Aside0.mk hl147_0
                              clear hi147_0 hl147_0
                              have HR147_3 := Aside0.mk hi147_3
                              have HC147_3 := Aside0.mk hl147_3
                              clear hi147_3 hl147_3
                              replace p147 := eq_true p147
                              replace q147 := eq_true q147
                              have p148 : 0 ≤ (x11_2 : Int) := of_decide_eq_true (by first | (with_reducible assumption) | assumption)
                              have q148 : x11_2 < (t143.length : Int) := of_decide_eq_true (by first | (with_reducible assumption) | assumption)
                              obtain ⟨ad148, A148_0, c148_0, A148_3, c148_3, e148, hx148_0, hx148_1, hx148_2, hx148_3, hl148_0, hi148_0, hl148_3, hi148_3⟩ := at_T48 (Kd.N_reads' HO_8.out).2.2 x11_2 p148 q148
                              obtain rfl : ad147 = ad148 := (by injection e148)
                              obtain ⟨ce148, hce148, hMe148, hcc148⟩ := Kd.N_get HO_8.out z48 x11_2 p148 (by first | exact q148 | exact of_decide_eq_true (by first | (with_reducible assumption) | assumption) | (have e_ := (Kd.N_reads' HO_8.out).1; omega))
                              obtain ⟨ua148_0, uc148_0, ua148_3, uc148_3, rfl, ul148_0, ge148_0, ul148_3, ge148_3⟩ := k48_openF hMe148
                              have hv148_0 := hcc148 0 _ rfl
                              rw [Nat.add_zero] at hv148_0
                              replace hv148_0 := Option.some.inj (hv148_0.symm.trans hx148_0)
                              injection hv148_0 with hva_ hvn_ hvc_
                              rw [hva_] at ge148_0
                              rw [hvc_] at ul148_0
                              have HL148_0 := Aside0.mk (show Kd.V k45 45 _ w.heap.size _ _ ((rd_T48 t143 x11_2).f0) from Kd.V_mk ul148_0 ge148_0)
                              clear hva_ hvn_ hvc_ ge148_0 ul148_0
                              have hv148_3 := hcc148 3 _ rfl
                              rw [add_field _ _ 3 (by omega)] at hv148_3
                              replace hv148_3 := Option.some.inj (hv148_3.symm.trans hx148_3)
                              injection hv148_3 with hva_ hvn_ hvc_
                              rw [hva_] at ge148_3
                              rw [hvc_] at ul148_3
                              have HL148_3 := Aside0.mk (show Kd.V k57 57 _ w.heap.size _ _ ((rd_T48 t143 x11_2).f2) from Kd.V_mk ul148_3 ge148_3)
                              clear hva_ hvn_ hvc_ ge148_3 ul148_3
                              clear hcc148 hce148
                              have HR148_0 := Aside0.mk hi148_0
                              have HC148_0 := Aside0.mk hl148_0
                              clear hi148_0 hl148_0
                              have HR148_3 := Aside0.mk hi148_3
                              have HC148_3 := Aside0.mk hl148_3
                              clear hi148_3 hl148_3
                              replace p148 := eq_true p148
                              replace q148 := eq_true q148
                              have ea_ := Option.some.inj (hx147_0.symm.trans hx148_0)
                              injection ea_ with ea_ en_ ec_
                              subst ea_
                              subst ec_
                              clear en_
                              have ea_ := Option.some.inj (hx147_3.symm.trans hx148_3)
                              injection ea_ with ea_ en_ ec_
                              subst ea_
                              subst ec_
                              clear en_
                              have p149 : 0 ≤ (x12_3 : Int) := of_decide_eq_true (by first | (with_reducible assumption) | assumption)
                              have q149 : x12_3 < (((rd_T48 t143 x11_2).f2).length : Int) := of_decide_eq_true (by first | (with_reducible assumption) | assumption)
                              obtain ⟨ad149, e149, hx149_0, hx149_1⟩ := at_T57 (by repeat (first | (with_reducible exact HR148_3.out) | (with_reducible refine Kd.C_alloc ?_ _) | (with_reducible refine Kd.C_drewN ?_ _) | (with_reducible refine Kd.C_drew ?_) | exact HR148_3.out)) x12_3 p149 q149
                              cases e149
                              replace p149 := eq_true p149
                              replace q149 := eq_true q149
                              go_wp2_with (first | (go_at_call 36; (with_reducible refine (sennitref21_Marked.calls k3 ((rd_T57 ((rd_T48 t143 x11_2).f2) x12_3).f0) ((rd_T57 ((rd_T48 t143 x11_2).f2) x12_3).f1) true _ A20.out).mono ?_); rintro e w23 ⟨rfl, hb⟩; have n0_ := Aside0.mk (Kd.N_below (by (with_reducible repeat (first | apply Kd.N_alloc | apply Kd.N_drewN | apply Kd.N_drew)); exact HO_8.out) hb); have n1_ := Aside0.mk (Kd.R_below (by (with_reducible repeat (first | apply Kd.R_alloc | apply Kd.R_drewN | apply Kd.R_drew)); exact HO_10.out) hb); have n2_ := Aside0.mk (Kd.V_below (by (with_reducible repeat (first | apply Kd.V_alloc | apply Kd.V_drewN | apply Kd.V_drew)); exact HL147_0.out) hb); have n3_ := Aside0.mk (Kd.V_below (by (with_reducible repeat (first | apply Kd.V_alloc | apply Kd.V_drewN | apply Kd.V_drew)); exact HL147_3.out) hb); have n4_ := Aside0.mk (Kd.V_below (by (with_reducible repeat (first | apply Kd.V_alloc | apply Kd.V_drewN | apply Kd.V_drew)); exact HL148_0.out) hb); have n5_ := Aside0.mk (Kd.V_below (by (with_reducible repeat (first | apply Kd.V_alloc | apply Kd.V_drewN | apply Kd.V_drew)); exact HL148_3.out) hb); have n6_ := Aside0.mk (Kd.C_below (by repeat (first | (with_reducible exact HR147_0.out) | (with_reducible refine Kd.C_alloc ?_ _) | (with_reducible refine Kd.C_drewN ?_ _) | (with_reducible refine Kd.C_drew ?_) | exact HR147_0.out)) hb); have n7_ := Aside0.mk (Kd.C_below (by repeat (first | (with_reducible exact HR147_3.out) | (with_reducible refine Kd.C_alloc ?_ _) | (with_reducible refine Kd.C_drewN ?_ _) | (with_reducible refine Kd.C_drew ?_) | exact HR147_3.out)) hb); have n8_ := Aside0.mk (Kd.C_below (by repeat (first | (with_reducible exact HR148_0.out) | (with_reducible refine Kd.C_alloc ?_ _) | (with_reducible refine Kd.C_drewN ?_ _) | (with_reducible refine Kd.C_drew ?_) | exact HR148_0.out)) hb); have n9_ := Aside0.mk (Kd.C_below (by repeat (first | (with_reducible exact HR148_3.out) | (with_reducible refine Kd.C_alloc ?_ _) | (with_reducible refine Kd.C_drewN ?_ _) | (with_reducible refine Kd.C_drew ?_) | exact HR148_3.out)) hb); have n10_ := Aside0.mk (below_step (by repeat (first | (with_reducible first | exact HB.out | apply below_alloc | apply pw_below_drewN | apply below_drew1) | exact HB.out)) hb); clear HO_8; clear HO_10; clear HL147_0; clear HL147_3; clear HL148_0; clear HL148_3; clear HR147_0; clear HR147_3; clear HR148_0; clear HR148_3; clear HB; have HO_8 := n0_; have HO_10 := n1_; have HL147_0 := n2_; have HL147_3 := n3_; have HL148_0 := n4_; have HL148_3 := n5_; have HR147_0 := n6_; have HR147_3 := n7_; have HR148_0 := n8_; have HR148_3 := n9_; have HB := n10_; clear n0_ n1_ n2_ n3_ n4_ n5_ n6_ n7_ n8_ n9_ n10_; (try clear hb); (try clear hb2); (try clear hk); (try clear hi); have p151 : 0 ≤ (x11_2 : Int) := of_decide_eq_true (by first | (with_reducible assumption) | assumption); have q151 : x11_2 < (t143.length : Int) := of_decide_eq_true (by first | (with_reducible assumption) | assumption); obtain ⟨ad151, A151_0, c151_0, A151_3, c151_3, e151, hx151_0, hx151_1, hx151_2, hx151_3, hl151_0, hi151_0, hl151_3, hi151_3⟩ := at_T48 (Kd.N_reads' HO_8.out).2.2 x11_2 p151 q151; obtain rfl : ad147 = ad151 := (by injection e151); obtain ⟨ce151, hce151, hMe151, hcc151⟩ := Kd.N_get HO_8.out z48 x11_2 p151 (by first | exact q151 | exact of_decide_eq_true (by first | (with_reducible assumption) | assumption) | (have e_ := (Kd.N_reads' HO_8.out).1; omega)); obtain ⟨ua151_0, uc151_0, ua151_3, uc151_3, rfl, ul151_0, ge151_0, ul151_3, ge151_3⟩ := k48_openF hMe151; have hv151_0 := hcc151 0 _ rfl; rw [Nat.add_zero] at hv151_0; replace hv151_0 := Option.some.inj (hv151_0.symm.trans hx151_0); injection hv151_0 with hva_ hvn_ hvc_; rw [hva_] at ge151_0; rw [hvc_] at ul151_0; have HL151_0 := Aside0.mk (show Kd.V k45 45 _ w.heap.size _ _ ((rd_T48 t143 x11_2).f0) from Kd.V_mk ul151_0 ge151_0); clear hva_ hvn_ hvc_ ge151_0 ul151_0; have hv151_3 := hcc151 3 _ rfl; rw [add_field _ _ 3 (by omega)] at hv151_3; replace hv151_3 := Option.some.inj (hv151_3.symm.trans hx151_3); injection hv151_3 with hva_ hvn_ hvc_; rw [hva_] at ge151_3; rw [hvc_] at ul151_3; have HL151_3 := Aside0.mk (show Kd.V k57 57 _ w.heap.size _ _ ((rd_T48 t143 x11_2).f2) from Kd.V_mk ul151_3 ge151_3); clear hva_ hvn_ hvc_ ge151_3 ul151_3; clear hcc151 hce151; have HR151_0 := Aside0.mk hi151_0; have HC151_0 := Aside0.mk hl151_0; clear hi151_0 hl151_0; have HR151_3 := Aside0.mk hi151_3; have HC151_3 := Aside0.mk hl151_3; clear hi151_3 hl151_3; replace p151 := eq_true p151; replace q151 := eq_true q151; have p152 : 0 ≤ (x12_3 : Int) := of_decide_eq_true (by first | (with_reducible assumption) | assumption); have q152 : x12_3 < (((rd_T48 t143 x11_2).f2).length : Int) := of_decide_eq_true (by first | (with_reducible assumption) | assumption); obtain ⟨ad152, e152, hx152_0, hx152_1⟩ := at_T57 (by repeat (first | (with_reducible exact HR151_3.out) | (with_reducible refine Kd.C_alloc ?_ _) | (with_reducible refine Kd.C_drewN ?_ _) | (with_reducible refine Kd.C_drew ?_) | exact HR151_3.out)) x12_3 p152 q152; cases e152; replace p152 := eq_true p152; replace q152 := eq_true q152) | ((with_reducible refine gate_builtin (b := .append) (xs := #[.tmp 60, .tmp 69]) rfl ?_); at_builtin; refine Kd.R_append k57 (w0 := w) w.heap.size rfl (.tmp 60) (.tmp 69) 36 57 (.agg #[(.string ⟨#[]⟩), (.string ⟨#[]⟩)]) 32 rfl Tryd.underlying36 info57 rfl (by decide) (by omega) u10 x10_3 (⟨(rd_T57 ((rd_T48 t143 x11_2).f2) x12_3).f0, (rd_T57 ((rd_T48 t143 x11_2).f2) x12_3).f1⟩ : S57) [.string ((rd_T57 ((rd_T48 t143 x11_2).f2) x12_3).f0), .string ((rd_T57 ((rd_T48 t143 x11_2).f2) x12_3).f1)] (fun _ => True) (fun _ => False) rfl rfl ?aP (fun _ hk => hk.elim) ?aF ?aO ?aB ?aS ?aL ?_; (case aP => exact k57_mkM _ _ _ (⟨(rd_T57 ((rd_T48 t143 x11_2).f2) x12_3).f0, (rd_T57 ((rd_T48 t143 x11_2).f2) x12_3).f1⟩ : S57)); (case aB => exact (by repeat (first | (with_reducible first | exact HB.out | apply below_alloc | apply pw_below_drewN | apply below_drew1) | exact HB.out))); (case aF => exact (fun _ _ => trivial)); (case aO => exact (by (with_reducible repeat (first | apply Kd.R_alloc | apply Kd.R_drewN | apply Kd.R_drew)); exact HO_10.out)); (case aS => exact (below_size (by repeat (first | (with_reducible first | exact HB.out | apply below_alloc | apply pw_below_drewN | apply below_drew1) | exact HB.out)))); (case aL => have := LMc22.out; omega); intro v154 w24 ho hb hg hat; rw [← Ny153.out] at ho; have n0_ := Aside0.mk (Kd.N_afterv (ok := (fun _ => True)) (by (with_reducible repeat (first | apply Kd.N_alloc | apply Kd.N_drewN | apply Kd.N_drew)); exact Kd.N_mono HO_8.out (fun _ hk => ⟨trivial, hk⟩)) hg hat); have n1_ := Aside0.mk (Kd.V_afterv (ok := (fun k_ => some k_ ≠ (.slice (some ad147) t143.length co15 : Value).ownBlock)) (by (with_reducible repeat (first | apply Kd.V_alloc | apply Kd.V_drewN | apply Kd.V_drew)); exact Kd.V_mono HL147_0.out (fun _ hk => ⟨hk.2, hk.1⟩)) hg hat); have n2_ := Aside0.mk (Kd.V_afterv (ok := (fun k_ => some k_ ≠ (.slice (some ad147) t143.length co15 : Value).ownBlock)) (by (with_reducible repeat (first | apply Kd.V_alloc | apply Kd.V_drewN | apply Kd.V_drew)); exact Kd.V_mono HL147_3.out (fun _ hk => ⟨hk.2, hk.1⟩)) hg hat); have n3_ := Aside0.mk (Kd.V_afterv (ok := (fun k_ => some k_ ≠ (.slice (some ad147) t143.length co15 : Value).ownBlock)) (by (with_reducible repeat (first | apply Kd.V_alloc | apply Kd.V_drewN | apply Kd.V_drew)); exact Kd.V_mono HL148_0.out (fun _ hk => ⟨hk.2, hk.1⟩)) hg hat); have n4_ := Aside0.mk (Kd.V_afterv (ok := (fun k_ => some k_ ≠ (.slice (some ad147) t143.length co15 : Value).ownBlock)) (by (with_reducible repeat (first | apply Kd.V_alloc | apply Kd.V_drewN | apply Kd.V_drew)); exact Kd.V_mono HL148_3.out (fun _ hk => ⟨hk.2, hk.1⟩)) hg hat); have n5_ := Aside0.mk (Kd.V_afterv (ok := (fun k_ => some k_ ≠ (.slice (some ad147) t143.length co15 : Value).ownBlock)) (by (with_reducible repeat (first | apply Kd.V_alloc | apply Kd.V_drewN | apply Kd.V_drew)); exact Kd.V_mono HL151_0.out (fun _ hk => ⟨hk.2, hk.1⟩)) hg hat); have n6_ := Aside0.mk (Kd.V_afterv (ok := (fun k_ => some k_ ≠ (.slice (some ad147) t143.length co15 : Value).ownBlock)) (by (with_reducible repeat (first | apply Kd.V_alloc | apply Kd.V_drewN | apply Kd.V_drew)); exact Kd.V_mono HL151_3.out (fun _ hk => ⟨hk.2, hk.1⟩)) hg hat); have n7_ := Aside0.mk (hb); have n8_ := Aside0.mk (ho); clear HO_8; clear HL147_0; clear HL147_3; clear HL148_0; clear HL148_3; clear HL151_0; clear HL151_3; clear HB; clear HO_10; have HO_8 := n0_; have HL147_0 := n1_; have HL147_3 := n2_; have HL148_0 := n3_; have HL148_3 := n4_; have HL151_0 := n5_; have HL151_3 := n6_; have HB := n7_; have HO155 := n8_; clear n0_ n1_ n2_ n3_ n4_ n5_ n6_ n7_ n8_; clear ho hb hg hat))
                              repeat (go_quiet (first | (go_at_call 36; (with_reducible refine (sennitref21_Marked.calls k3 ((rd_T57 ((rd_T48 t143 x11_2).f2) x12_3).f0) ((rd_T57 ((rd_T48 t143 x11_2).f2) x12_3).f1) true _ A20.out).mono ?_); rintro e w23 ⟨rfl, hb⟩; have n0_ := Aside0.mk (Kd.N_below (by (with_reducible repeat (first | apply Kd.N_alloc | apply Kd.N_drewN | apply Kd.N_drew)); exact HO_8.out) hb); have n1_ := Aside0.mk (Kd.R_below (by (with_reducible repeat (first | apply Kd.R_alloc | apply Kd.R_drewN | apply Kd.R_drew)); exact HO_10.out) hb); have n2_ := Aside0.mk (Kd.V_below (by (with_reducible repeat (first | apply Kd.V_alloc | apply Kd.V_drewN | apply Kd.V_drew)); exact HL147_0.out) hb); have n3_ := Aside0.mk (Kd.V_below (by (with_reducible repeat (first | apply Kd.V_alloc | apply Kd.V_drewN | apply Kd.V_drew)); exact HL147_3.out) hb); have n4_ := Aside0.mk (Kd.V_below (by (with_reducible repeat (first | apply Kd.V_alloc | apply Kd.V_drewN | apply Kd.V_drew)); exact HL148_0.out) hb); have n5_ := Aside0.mk (Kd.V_below (by (with_reducible repeat (first | apply Kd.V_alloc | apply Kd.V_drewN | apply Kd.V_drew)); exact HL148_3.out) hb); have n6_ := Aside0.mk (Kd.C_below (by repeat (first | (with_reducible exact HR147_0.out) | (with_reducible refine Kd.C_alloc ?_ _) | (with_reducible refine Kd.C_drewN ?_ _) | (with_reducible refine Kd.C_drew ?_) | exact HR147_0.out)) hb); have n7_ := Aside0.mk (Kd.C_below (by repeat (first | (with_reducible exact HR147_3.out) | (with_reducible refine Kd.C_alloc ?_ _) | (with_reducible refine Kd.C_drewN ?_ _) | (with_reducible refine Kd.C_drew ?_) | exact HR147_3.out)) hb); have n8_ := Aside0.mk (Kd.C_below (by repeat (first | (with_reducible exact HR148_0.out) | (with_reducible refine Kd.C_alloc ?_ _) | (with_reducible refine Kd.C_drewN ?_ _) | (with_reducible refine Kd.C_drew ?_) | exact HR148_0.out)) hb); have n9_ := Aside0.mk (Kd.C_below (by repeat (first | (with_reducible exact HR148_3.out) | (with_reducible refine Kd.C_alloc ?_ _) | (with_reducible refine Kd.C_drewN ?_ _) | (with_reducible refine Kd.C_drew ?_) | exact HR148_3.out)) hb); have n10_ := Aside0.mk (below_step (by repeat (first | (with_reducible first | exact HB.out | apply below_alloc | apply pw_below_drewN | apply below_drew1) | exact HB.out)) hb); clear HO_8; clear HO_10; clear HL147_0; clear HL147_3; clear HL148_0; clear HL148_3; clear HR147_0; clear HR147_3; clear HR148_0; clear HR148_3; clear HB; have HO_8 := n0_; have HO_10 := n1_; have HL147_0 := n2_; have HL147_3 := n3_; have HL148_0 := n4_; have HL148_3 := n5_; have HR147_0 := n6_; have HR147_3 := n7_; have HR148_0 := n8_; have HR148_3 := n9_; have HB := n10_; clear n0_ n1_ n2_ n3_ n4_ n5_ n6_ n7_ n8_ n9_ n10_; (try clear hb); (try clear hb2); (try clear hk); (try clear hi); have p151 : 0 ≤ (x11_2 : Int) := of_decide_eq_true (by first | (with_reducible assumption) | assumption); have q151 : x11_2 < (t143.length : Int) := of_decide_eq_true (by first | (with_reducible assumption) | assumption); obtain ⟨ad151, A151_0, c151_0, A151_3, c151_3, e151, hx151_0, hx151_1, hx151_2, hx151_3, hl151_0, hi151_0, hl151_3, hi151_3⟩ := at_T48 (Kd.N_reads' HO_8.out).2.2 x11_2 p151 q151; obtain rfl : ad147 = ad151 := (by injection e151); obtain ⟨ce151, hce151, hMe151, hcc151⟩ := Kd.N_get HO_8.out z48 x11_2 p151 (by first | exact q151 | exact of_decide_eq_true (by first | (with_reducible assumption) | assumption) | (have e_ := (Kd.N_reads' HO_8.out).1; omega)); obtain ⟨ua151_0, uc151_0, ua151_3, uc151_3, rfl, ul151_0, ge151_0, ul151_3, ge151_3⟩ := k48_openF hMe151; have hv151_0 := hcc151 0 _ rfl; rw [Nat.add_zero] at hv151_0; replace hv151_0 := Option.some.inj (hv151_0.symm.trans hx151_0); injection hv151_0 with hva_ hvn_ hvc_; rw [hva_] at ge151_0; rw [hvc_] at ul151_0; have HL151_0 := Aside0.mk (show Kd.V k45 45 _ w.heap.size _ _ ((rd_T48 t143 x11_2).f0) from Kd.V_mk ul151_0 ge151_0); clear hva_ hvn_ hvc_ ge151_0 ul151_0; have hv151_3 := hcc151 3 _ rfl; rw [add_field _ _ 3 (by omega)] at hv151_3; replace hv151_3 := Option.some.inj (hv151_3.symm.trans hx151_3); injection hv151_3 with hva_ hvn_ hvc_; rw [hva_] at ge151_3; rw [hvc_] at ul151_3; have HL151_3 := Aside0.mk (show Kd.V k57 57 _ w.heap.size _ _ ((rd_T48 t143 x11_2).f2) from Kd.V_mk ul151_3 ge151_3); clear hva_ hvn_ hvc_ ge151_3 ul151_3; clear hcc151 hce151; have HR151_0 := Aside0.mk hi151_0; have HC151_0 := Aside0.mk hl151_0; clear hi151_0 hl151_0; have HR151_3 := Aside0.mk hi151_3; have HC151_3 := Aside0.mk hl151_3; clear hi151_3 hl151_3; replace p151 := eq_true p151; replace q151 := eq_true q151; have p152 : 0 ≤ (x12_3 : Int) := of_decide_eq_true (by first | (with_reducible assumption) | assumption); have q152 : x12_3 < (((rd_T48 t143 x11_2).f2).length : Int) := of_decide_eq_true (by first | (with_reducible assumption) | assumption); obtain ⟨ad152, e152, hx152_0, hx152_1⟩ := at_T57 (by repeat (first | (with_reducible exact HR151_3.out) | (with_reducible refine Kd.C_alloc ?_ _) | (with_reducible refine Kd.C_drewN ?_ _) | (with_reducible refine Kd.C_drew ?_) | exact HR151_3.out)) x12_3 p152 q152; cases e152; replace p152 := eq_true p152; replace q152 := eq_true q152) | ((with_reducible refine gate_builtin (b := .append) (xs := #[.tmp 60, .tmp 69]) rfl ?_); at_builtin; refine Kd.R_append k57 (w0 := w) w.heap.size rfl (.tmp 60) (.tmp 69) 36 57 (.agg #[(.string ⟨#[]⟩), (.string ⟨#[]⟩)]) 32 rfl Tryd.underlying36 info57 rfl (by decide) (by omega) u10 x10_3 (⟨(rd_T57 ((rd_T48 t143 x11_2).f2) x12_3).f0, (rd_T57 ((rd_T48 t143 x11_2).f2) x12_3).f1⟩ : S57) [.string ((rd_T57 ((rd_T48 t143 x11_2).f2) x12_3).f0), .string ((rd_T57 ((rd_T48 t143 x11_2).f2) x12_3).f1)] (fun _ => True) (fun _ => False) rfl rfl ?aP (fun _ hk => hk.elim) ?aF ?aO ?aB ?aS ?aL ?_; (case aP => exact k57_mkM _ _ _ (⟨(rd_T57 ((rd_T48 t143 x11_2).f2) x12_3).f0, (rd_T57 ((rd_T48 t143 x11_2).f2) x12_3).f1⟩ : S57)); (case aB => exact (by repeat (first | (with_reducible first | exact HB.out | apply below_alloc | apply pw_below_drewN | apply below_drew1) | exact HB.out))); (case aF => exact (fun _ _ => trivial)); (case aO => exact (by (with_reducible repeat (first | apply Kd.R_alloc | apply Kd.R_drewN | apply Kd.R_drew)); exact HO_10.out)); (case aS => exact (below_size (by repeat (first | (with_reducible first | exact HB.out | apply below_alloc | apply pw_below_drewN | apply below_drew1) | exact HB.out)))); (case aL => have := LMc22.out; omega); intro v154 w24 ho hb hg hat; rw [← Ny153.out] at ho; have n0_ := Aside0.mk (Kd.N_afterv (ok := (fun _ => True)) (by (with_reducible repeat (first | apply Kd.N_alloc | apply Kd.N_drewN | apply Kd.N_drew)); exact Kd.N_mono HO_8.out (fun _ hk => ⟨trivial, hk⟩)) hg hat); have n1_ := Aside0.mk (Kd.V_afterv (ok := (fun k_ => some k_ ≠ (.slice (some ad147) t143.length co15 : Value).ownBlock)) (by (with_reducible repeat (first | apply Kd.V_alloc | apply Kd.V_drewN | apply Kd.V_drew)); exact Kd.V_mono HL147_0.out (fun _ hk => ⟨hk.2, hk.1⟩)) hg hat); have n2_ := Aside0.mk (Kd.V_afterv (ok := (fun k_ => some k_ ≠ (.slice (some ad147) t143.length co15 : Value).ownBlock)) (by (with_reducible repeat (first | apply Kd.V_alloc | apply Kd.V_drewN | apply Kd.V_drew)); exact Kd.V_mono HL147_3.out (fun _ hk => ⟨hk.2, hk.1⟩)) hg hat); have n3_ := Aside0.mk (Kd.V_afterv (ok := (fun k_ => some k_ ≠ (.slice (some ad147) t143.length co15 : Value).ownBlock)) (by (with_reducible repeat (first | apply Kd.V_alloc | apply Kd.V_drewN | apply Kd.V_drew)); exact Kd.V_mono HL148_0.out (fun _ hk => ⟨hk.2, hk.1⟩)) hg hat); have n4_ := Aside0.mk (Kd.V_afterv (ok := (fun k_ => some k_ ≠ (.slice (some ad147) t143.length co15 : Value).ownBlock)) (by (with_reducible repeat (first | apply Kd.V_alloc | apply Kd.V_drewN | apply Kd.V_drew)); exact Kd.V_mono HL148_3.out (fun _ hk => ⟨hk.2, hk.1⟩)) hg hat); have n5_ := Aside0.mk (Kd.V_afterv (ok := (fun k_ => some k_ ≠ (.slice (some ad147) t143.length co15 : Value).ownBlock)) (by (with_reducible repeat (first | apply Kd.V_alloc | apply Kd.V_drewN | apply Kd.V_drew)); exact Kd.V_mono HL151_0.out (fun _ hk => ⟨hk.2, hk.1⟩)) hg hat); have n6_ := Aside0.mk (Kd.V_afterv (ok := (fun k_ => some k_ ≠ (.slice (some ad147) t143.length co15 : Value).ownBlock)) (by (with_reducible repeat (first | apply Kd.V_alloc | apply Kd.V_drewN | apply Kd.V_drew)); exact Kd.V_mono HL151_3.out (fun _ hk => ⟨hk.2, hk.1⟩)) hg hat); have n7_ := Aside0.mk (hb); have n8_ := Aside0.mk (ho); clear HO_8; clear HL147_0; clear HL147_3; clear HL148_0; clear HL148_3; clear HL151_0; clear HL151_3; clear HB; clear HO_10; have HO_8 := n0_; have HL147_0 := n1_; have HL147_3 := n2_; have HL148_0 := n3_; have HL148_3 := n4_; have HL151_0 := n5_; have HL151_3 := n6_; have HB := n7_; have HO155 := n8_; clear n0_ n1_ n2_ n3_ n4_ n5_ n6_ n7_ n8_; clear ho hb hg hat)); try go_wp2_with (first | (go_at_call 36; (with_reducible refine (sennitref21_Marked.calls k3 ((rd_T57 ((rd_T48 t143 x11_2).f2) x12_3).f0) ((rd_T57 ((rd_T48 t143 x11_2).f2) x12_3).f1) true _ A20.out).mono ?_); rintro e w23 ⟨rfl, hb⟩; have n0_ := Aside0.mk (Kd.N_below (by (with_reducible repeat (first | apply Kd.N_alloc | apply Kd.N_drewN | apply Kd.N_drew)); exact HO_8.out) hb); have n1_ := Aside0.mk (Kd.R_below (by (with_reducible repeat (first | apply Kd.R_alloc | apply Kd.R_drewN | apply Kd.R_drew)); exact HO_10.out) hb); have n2_ := Aside0.mk (Kd.V_below (by (with_reducible repeat (first | apply Kd.V_alloc | apply Kd.V_drewN | apply Kd.V_drew)); exact HL147_0.out) hb); have n3_ := Aside0.mk (Kd.V_below (by (with_reducible repeat (first | apply Kd.V_alloc | apply Kd.V_drewN | apply Kd.V_drew)); exact HL147_3.out) hb); have n4_ := Aside0.mk (Kd.V_below (by (with_reducible repeat (first | apply Kd.V_alloc | apply Kd.V_drewN | apply Kd.V_drew)); exact HL148_0.out) hb); have n5_ := Aside0.mk (Kd.V_below (by (with_reducible repeat (first | apply Kd.V_alloc | apply Kd.V_drewN | apply Kd.V_drew)); exact HL148_3.out) hb); have n6_ := Aside0.mk (Kd.C_below (by repeat (first | (with_reducible exact HR147_0.out) | (with_reducible refine Kd.C_alloc ?_ _) | (with_reducible refine Kd.C_drewN ?_ _) | (with_reducible refine Kd.C_drew ?_) | exact HR147_0.out)) hb); have n7_ := Aside0.mk (Kd.C_below (by repeat (first | (with_reducible exact HR147_3.out) | (with_reducible refine Kd.C_alloc ?_ _) | (with_reducible refine Kd.C_drewN ?_ _) | (with_reducible refine Kd.C_drew ?_) | exact HR147_3.out)) hb); have n8_ := Aside0.mk (Kd.C_below (by repeat (first | (with_reducible exact HR148_0.out) | (with_reducible refine Kd.C_alloc ?_ _) | (with_reducible refine Kd.C_drewN ?_ _) | (with_reducible refine Kd.C_drew ?_) | exact HR148_0.out)) hb); have n9_ := Aside0.mk (Kd.C_below (by repeat (first | (with_reducible exact HR148_3.out) | (with_reducible refine Kd.C_alloc ?_ _) | (with_reducible refine Kd.C_drewN ?_ _) | (with_reducible refine Kd.C_drew ?_) | exact HR148_3.out)) hb); have n10_ := Aside0.mk (below_step (by repeat (first | (with_reducible first | exact HB.out | apply below_alloc | apply pw_below_drewN | apply below_drew1) | exact HB.out)) hb); clear HO_8; clear HO_10; clear HL147_0; clear HL147_3; clear HL148_0; clear HL148_3; clear HR147_0; clear HR147_3; clear HR148_0; clear HR148_3; clear HB; have HO_8 := n0_; have HO_10 := n1_; have HL147_0 := n2_; have HL147_3 := n3_; have HL148_0 := n4_; have HL148_3 := n5_; have HR147_0 := n6_; have HR147_3 := n7_; have HR148_0 := n8_; have HR148_3 := n9_; have HB := n10_; clear n0_ n1_ n2_ n3_ n4_ n5_ n6_ n7_ n8_ n9_ n10_; (try clear hb); (try clear hb2); (try clear hk); (try clear hi); have p151 : 0 ≤ (x11_2 : Int) := of_decide_eq_true (by first | (with_reducible assumption) | assumption); have q151 : x11_2 < (t143.length : Int) := of_decide_eq_true (by first | (with_reducible assumption) | assumption); obtain ⟨ad151, A151_0, c151_0, A151_3, c151_3, e151, hx151_0, hx151_1, hx151_2, hx151_3, hl151_0, hi151_0, hl151_3, hi151_3⟩ := at_T48 (Kd.N_reads' HO_8.out).2.2 x11_2 p151 q151; obtain rfl : ad147 = ad151 := (by injection e151); obtain ⟨ce151, hce151, hMe151, hcc151⟩ := Kd.N_get HO_8.out z48 x11_2 p151 (by first | exact q151 | exact of_decide_eq_true (by first | (with_reducible assumption) | assumption) | (have e_ := (Kd.N_reads' HO_8.out).1; omega)); obtain ⟨ua151_0, uc151_0, ua151_3, uc151_3, rfl, ul151_0, ge151_0, ul151_3, ge151_3⟩ := k48_openF hMe151; have hv151_0 := hcc151 0 _ rfl; rw [Nat.add_zero] at hv151_0; replace hv151_0 := Option.some.inj (hv151_0.symm.trans hx151_0); injection hv151_0 with hva_ hvn_ hvc_; rw [hva_] at ge151_0; rw [hvc_] at ul151_0; have HL151_0 := Aside0.mk (show Kd.V k45 45 _ w.heap.size _ _ ((rd_T48 t143 x11_2).f0) from Kd.V_mk ul151_0 ge151_0); clear hva_ hvn_ hvc_ ge151_0 ul151_0; have hv151_3 := hcc151 3 _ rfl; rw [add_field _ _ 3 (by omega)] at hv151_3; replace hv151_3 := Option.some.inj (hv151_3.symm.trans hx151_3); injection hv151_3 with hva_ hvn_ hvc_; rw [hva_] at ge151_3; rw [hvc_] at ul151_3; have HL151_3 := Aside0.mk (show Kd.V k57 57 _ w.heap.size _ _ ((rd_T48 t143 x11_2).f2) from Kd.V_mk ul151_3 ge151_3); clear hva_ hvn_ hvc_ ge151_3 ul151_3; clear hcc151 hce151; have HR151_0 := Aside0.mk hi151_0; have HC151_0 := Aside0.mk hl151_0; clear hi151_0 hl151_0; have HR151_3 := Aside0.mk hi151_3; have HC151_3 := Aside0.mk hl151_3; clear hi151_3 hl151_3; replace p151 := eq_true p151; replace q151 := eq_true q151; have p152 : 0 ≤ (x12_3 : Int) := of_decide_eq_true (by first | (with_reducible assumption) | assumption); have q152 : x12_3 < (((rd_T48 t143 x11_2).f2).length : Int) := of_decide_eq_true (by first | (with_reducible assumption) | assumption); obtain ⟨ad152, e152, hx152_0, hx152_1⟩ := at_T57 (by repeat (first | (with_reducible exact HR151_3.out) | (with_reducible refine Kd.C_alloc ?_ _) | (with_reducible refine Kd.C_drewN ?_ _) | (with_reducible refine Kd.C_drew ?_) | exact HR151_3.out)) x12_3 p152 q152; cases e152; replace p152 := eq_true p152; replace q152 := eq_true q152) | ((with_reducible refine gate_builtin (b := .append) (xs := #[.tmp 60, .tmp 69]) rfl ?_); at_builtin; refine Kd.R_append k57 (w0 := w) w.heap.size rfl (.tmp 60) (.tmp 69) 36 57 (.agg #[(.string ⟨#[]⟩), (.string ⟨#[]⟩)]) 32 rfl Tryd.underlying36 info57 rfl (by decide) (by omega) u10 x10_3 (⟨(rd_T57 ((rd_T48 t143 x11_2).f2) x12_3).f0, (rd_T57 ((rd_T48 t143 x11_2).f2) x12_3).f1⟩ : S57) [.string ((rd_T57 ((rd_T48 t143 x11_2).f2) x12_3).f0), .string ((rd_T57 ((rd_T48 t143 x11_2).f2) x12_3).f1)] (fun _ => True) (fun _ => False) rfl rfl ?aP (fun _ hk => hk.elim) ?aF ?aO ?aB ?aS ?aL ?_; (case aP => exact k57_mkM _ _ _ (⟨(rd_T57 ((rd_T48 t143 x11_2).f2) x12_3).f0, (rd_T57 ((rd_T48 t143 x11_2).f2) x12_3).f1⟩ : S57)); (case aB => exact (by repeat (first | (with_reducible first | exact HB.out | apply below_alloc | apply pw_below_drewN | apply below_drew1) | exact HB.out))); (case aF => exact (fun _ _ => trivial)); (case aO => exact (by (with_reducible repeat (first | apply Kd.R_alloc | apply Kd.R_drewN | apply Kd.R_drew)); exact HO_10.out)); (case aS => exact (below_size (by repeat (first | (with_reducible first | exact HB.out | apply below_alloc | apply pw_below_drewN | apply below_drew1) | exact HB.out)))); (case aL => have := LMc22.out; omega); intro v154 w24 ho hb hg hat; rw [← Ny153.out] at ho; have n0_ := Aside0.mk (Kd.N_afterv (ok := (fun _ => True)) (by (with_reducible repeat (first | apply Kd.N_alloc | apply Kd.N_drewN | apply Kd.N_drew)); exact Kd.N_mono HO_8.out (fun _ hk => ⟨trivial, hk⟩)) hg hat); have n1_ := Aside0.mk (Kd.V_afterv (ok := (fun k_ => some k_ ≠ (.slice (some ad147) t143.length co15 : Value).ownBlock)) (by (with_reducible repeat (first | apply Kd.V_alloc | apply Kd.V_drewN | apply Kd.V_drew)); exact Kd.V_mono HL147_0.out (fun _ hk => ⟨hk.2, hk.1⟩)) hg hat); have n2_ := Aside0.mk (Kd.V_afterv (ok := (fun k_ => some k_ ≠ (.slice (some ad147) t143.length co15 : Value).ownBlock)) (by (with_reducible repeat (first | apply Kd.V_alloc | apply Kd.V_drewN | apply Kd.V_drew)); exact Kd.V_mono HL147_3.out (fun _ hk => ⟨hk.2, hk.1⟩)) hg hat); have n3_ := Aside0.mk (Kd.V_afterv (ok := (fun k_ => some k_ ≠ (.slice (some ad147) t143.length co15 : Value).ownBlock)) (by (with_reducible repeat (first | apply Kd.V_alloc | apply Kd.V_drewN | apply Kd.V_drew)); exact Kd.V_mono HL148_0.out (fun _ hk => ⟨hk.2, hk.1⟩)) hg hat); have n4_ := Aside0.mk (Kd.V_afterv (ok := (fun k_ => some k_ ≠ (.slice (some ad147) t143.length co15 : Value).ownBlock)) (by (with_reducible repeat (first | apply Kd.V_alloc | apply Kd.V_drewN | apply Kd.V_drew)); exact Kd.V_mono HL148_3.out (fun _ hk => ⟨hk.2, hk.1⟩)) hg hat); have n5_ := Aside0.mk (Kd.V_afterv (ok := (fun k_ => some k_ ≠ (.slice (some ad147) t143.length co15 : Value).ownBlock)) (by (with_reducible repeat (first | apply Kd.V_alloc | apply Kd.V_drewN | apply Kd.V_drew)); exact Kd.V_mono HL151_0.out (fun _ hk => ⟨hk.2, hk.1⟩)) hg hat); have n6_ := Aside0.mk (Kd.V_afterv (ok := (fun k_ => some k_ ≠ (.slice (some ad147) t143.length co15 : Value).ownBlock)) (by (with_reducible repeat (first | apply Kd.V_alloc | apply Kd.V_drewN | apply Kd.V_drew)); exact Kd.V_mono HL151_3.out (fun _ hk => ⟨hk.2, hk.1⟩)) hg hat); have n7_ := Aside0.mk (hb); have n8_ := Aside0.mk (ho); clear HO_8; clear HL147_0; clear HL147_3; clear HL148_0; clear HL148_3; clear HL151_0; clear HL151_3; clear HB; clear HO_10; have HO_8 := n0_; have HL147_0 := n1_; have HL147_3 := n2_; have HL148_0 := n3_; have HL148_3 := n4_; have HL151_0 := n5_; have HL151_3 := n6_; have HB := n7_; have HO155 := n8_; clear n0_ n1_ n2_ n3_ n4_ n5_ n6_ n7_ n8_; clear ho hb hg hat)))
                              go_roundg k3
                              case measure => have := HJ4.out; have := HK2.out; have := HK3.out; omega
                              case rel => exact ⟨(y153), (wrap64 (x12_3 + 1)), (by first | rfl | (simp; done) | (simp [*]; done)), H', ⟨by have := HJ4.out; have := HK2.out; have := HK3.out; omega⟩, ⟨by (with_reducible repeat (first | apply Kd.N_alloc | apply Kd.N_drewN | apply Kd.N_drew)); exact Kd.N_mono HO_8.out (fun _ hk => hk.2)⟩, ⟨by (with_reducible repeat (first | apply Kd.R_alloc | apply Kd.R_drewN | apply Kd.R_drew)); exact HO155.out⟩, ⟨by repeat (first | (with_reducible first | exact HB.out | apply below_alloc | apply pw_below_drewN | apply below_drew1) | exact HB.out)⟩⟩
                            · rw [if_neg c22] at H
                              exact absurd H (by simp)
                          · replace c21 := Bool.eq_false_iff.mpr c21
                            subst c21
                            have H1 : (sennitlaw21_HunkCovers.l1 k3 l0 a2 t140 t143 t146 x10_3 x11_2 (wrap64 (x12_3 + 1))) = some r := by rw [if_neg (show ¬ (false = true) by decide)] at H; exact H
                            clear H
                            have H := H1
                            clear H1
                            have H' := Aside0.mk H
                            clear H
                            have p147 : 0 ≤ (x11_2 : Int) := of_decide_eq_true (by first | (with_reducible assumption) | assumption)
                            have q147 : x11_2 < (t143.length : Int) := of_decide_eq_true (by first | (with_reducible assumption) | assumption)
                            obtain ⟨ad147, A147_0, c147_0, A147_3, c147_3, e147, hx147_0, hx147_1, hx147_2, hx147_3, hl147_0, hi147_0, hl147_3, hi147_3⟩ := at_T48 (Kd.N_reads' HO_8.out).2.2 x11_2 p147 q147
                            cases e147
                            obtain ⟨ce147, hce147, hMe147, hcc147⟩ := Kd.N_get HO_8.out z48 x11_2 p147 (by first | exact q147 | exact of_decide_eq_true (by first | (with_reducible assumption) | assumption) | (have e_ := (Kd.N_reads' HO_8.out).1; omega))
                            obtain ⟨ua147_0, uc147_0, ua147_3, uc147_3, rfl, ul147_0, ge147_0, ul147_3, ge147_3⟩ := k48_openF hMe147
                            have hv147_0 := hcc147 0 _ rfl
                            rw [Nat.add_zero] at hv147_0
                            replace hv147_0 := Option.some.inj (hv147_0.symm.trans hx147_0)
                            injection hv147_0 with hva_ hvn_ hvc_
                            rw [hva_] at ge147_0
                            rw [hvc_] at ul147_0
                            have HL147_0 := Aside0.mk (show Kd.V k45 45 _ w.heap.size _ _ ((rd_T48 t143 x11_2).f0) from Kd.V_mk ul147_0 ge147_0)
                            clear hva_ hvn_ hvc_ ge147_0 ul147_0
                            have hv147_3 := hcc147 3 _ rfl
                            rw [add_field _ _ 3 (by omega)] at hv147_3
                            replace hv147_3 := Option.some.inj (hv147_3.symm.trans hx147_3)
                            injection hv147_3 with hva_ hvn_ hvc_
                            rw [hva_] at ge147_3
                            rw [hvc_] at ul147_3
                            have HL147_3 := Aside0.mk (show Kd.V k57 57 _ w.heap.size _ _ ((rd_T48 t143 x11_2).f2) from Kd.V_mk ul147_3 ge147_3)
                            clear hva_ hvn_ hvc_ ge147_3 ul147_3
                            clear hcc147 hce147
                            have HR147_0 := Aside0.mk hi147_0
                            have HC147_0 := Aside0.mk hl147_0
                            clear hi147_0 hl147_0
                            have HR147_3 := Aside0.mk hi147_3
                            have HC147_3 := Aside0.mk hl147_3
                            clear hi147_3 hl147_3
                            replace p147 := eq_true p147
                            replace q147 := eq_true q147
                            have p148 : 0 ≤ (x11_2 : Int) := of_decide_eq_true (by first | (with_reducible assumption) | assumption)
                            have q148 : x11_2 < (t143.length : Int) := of_decide_eq_true (by first | (with_reducible assumption) | assumption)
                            obtain ⟨ad148, A148_0, c148_0, A148_3, c148_3, e148, hx148_0, hx148_1, hx148_2, hx148_3, hl148_0, hi148_0, hl148_3, hi148_3⟩ := at_T48 (Kd.N_reads' HO_8.out).2.2 x11_2 p148 q148
                            obtain rfl : ad147 = ad148 := (by injection e148)
                            obtain ⟨ce148, hce148, hMe148, hcc148⟩ := Kd.N_get HO_8.out z48 x11_2 p148 (by first | exact q148 | exact of_decide_eq_true (by first | (with_reducible assumption) | assumption) | (have e_ := (Kd.N_reads' HO_8.out).1; omega))
                            obtain ⟨ua148_0, uc148_0, ua148_3, uc148_3, rfl, ul148_0, ge148_0, ul148_3, ge148_3⟩ := k48_openF hMe148
                            have hv148_0 := hcc148 0 _ rfl
                            rw [Nat.add_zero] at hv148_0
                            replace hv148_0 := Option.some.inj (hv148_0.symm.trans hx148_0)
                            injection hv148_0 with hva_ hvn_ hvc_
                            rw [hva_] at ge148_0
                            rw [hvc_] at ul148_0
                            have HL148_0 := Aside0.mk (show Kd.V k45 45 _ w.heap.size _ _ ((rd_T48 t143 x11_2).f0) from Kd.V_mk ul148_0 ge148_0)
                            clear hva_ hvn_ hvc_ ge148_0 ul148_0
                            have hv148_3 := hcc148 3 _ rfl
                            rw [add_field _ _ 3 (by omega)] at hv148_3
                            replace hv148_3 := Option.some.inj (hv148_3.symm.trans hx148_3)
                            injection hv148_3 with hva_ hvn_ hvc_
                            rw [hva_] at ge148_3
                            rw [hvc_] at ul148_3
                            have HL148_3 := Aside0.mk (show Kd.V k57 57 _ w.heap.size _ _ ((rd_T48 t143 x11_2).f2) from Kd.V_mk ul148_3 ge148_3)
                            clear hva_ hvn_ hvc_ ge148_3 ul148_3
                            clear hcc148 hce148
                            have HR148_0 := Aside0.mk hi148_0
                            have HC148_0 := Aside0.mk hl148_0
                            clear hi148_0 hl148_0
                            have HR148_3 := Aside0.mk hi148_3
                            have HC148_3 := Aside0.mk hl148_3
                            clear hi148_3 hl148_3
                            replace p148 := eq_true p148
                            replace q148 := eq_true q148
                            have ea_ := Option.some.inj (hx147_0.symm.trans hx148_0)
                            injection ea_ with ea_ en_ ec_
                            subst ea_
                            subst ec_
                            clear en_
                            have ea_ := Option.some.inj (hx147_3.symm.trans hx148_3)
                            injection ea_ with ea_ en_ ec_
                            subst ea_
                            subst ec_
                            clear en_
                            have p149 : 0 ≤ (x12_3 : Int) := of_decide_eq_true (by first | (with_reducible assumption) | assumption)
                            have q149 : x12_3 < (((rd_T48 t143 x11_2).f2).length : Int) := of_decide_eq_true (by first | (with_reducible assumption) | assumption)
                            obtain ⟨ad149, e149, hx149_0, hx149_1⟩ := at_T57 (by repeat (first | (with_reducible exact HR148_3.out) | (with_reducible refine Kd.C_alloc ?_ _) | (with_reducible refine Kd.C_drewN ?_ _) | (with_reducible refine Kd.C_drew ?_) | exact HR148_3.out)) x12_3 p149 q149
                            cases e149
                            replace p149 := eq_true p149
                            replace q149 := eq_true q149
                            go_wp2_with (first | (go_at_call 36; (with_reducible refine (sennitref21_Marked.calls k3 ((rd_T57 ((rd_T48 t143 x11_2).f2) x12_3).f0) ((rd_T57 ((rd_T48 t143 x11_2).f2) x12_3).f1) false _ A20.out).mono ?_); rintro e w25 ⟨rfl, hb⟩; have n0_ := Aside0.mk (Kd.N_below (by (with_reducible repeat (first | apply Kd.N_alloc | apply Kd.N_drewN | apply Kd.N_drew)); exact HO_8.out) hb); have n1_ := Aside0.mk (Kd.R_below (by (with_reducible repeat (first | apply Kd.R_alloc | apply Kd.R_drewN | apply Kd.R_drew)); exact HO_10.out) hb); have n2_ := Aside0.mk (Kd.V_below (by (with_reducible repeat (first | apply Kd.V_alloc | apply Kd.V_drewN | apply Kd.V_drew)); exact HL147_0.out) hb); have n3_ := Aside0.mk (Kd.V_below (by (with_reducible repeat (first | apply Kd.V_alloc | apply Kd.V_drewN | apply Kd.V_drew)); exact HL147_3.out) hb); have n4_ := Aside0.mk (Kd.V_below (by (with_reducible repeat (first | apply Kd.V_alloc | apply Kd.V_drewN | apply Kd.V_drew)); exact HL148_0.out) hb); have n5_ := Aside0.mk (Kd.V_below (by (with_reducible repeat (first | apply Kd.V_alloc | apply Kd.V_drewN | apply Kd.V_drew)); exact HL148_3.out) hb); have n6_ := Aside0.mk (Kd.C_below (by repeat (first | (with_reducible exact HR147_0.out) | (with_reducible refine Kd.C_alloc ?_ _) | (with_reducible refine Kd.C_drewN ?_ _) | (with_reducible refine Kd.C_drew ?_) | exact HR147_0.out)) hb); have n7_ := Aside0.mk (Kd.C_below (by repeat (first | (with_reducible exact HR147_3.out) | (with_reducible refine Kd.C_alloc ?_ _) | (with_reducible refine Kd.C_drewN ?_ _) | (with_reducible refine Kd.C_drew ?_) | exact HR147_3.out)) hb); have n8_ := Aside0.mk (Kd.C_below (by repeat (first | (with_reducible exact HR148_0.out) | (with_reducible refine Kd.C_alloc ?_ _) | (with_reducible refine Kd.C_drewN ?_ _) | (with_reducible refine Kd.C_drew ?_) | exact HR148_0.out)) hb); have n9_ := Aside0.mk (Kd.C_below (by repeat (first | (with_reducible exact HR148_3.out) | (with_reducible refine Kd.C_alloc ?_ _) | (with_reducible refine Kd.C_drewN ?_ _) | (with_reducible refine Kd.C_drew ?_) | exact HR148_3.out)) hb); have n10_ := Aside0.mk (below_step (by repeat (first | (with_reducible first | exact HB.out | apply below_alloc | apply pw_below_drewN | apply below_drew1) | exact HB.out)) hb); clear HO_8; clear HO_10; clear HL147_0; clear HL147_3; clear HL148_0; clear HL148_3; clear HR147_0; clear HR147_3; clear HR148_0; clear HR148_3; clear HB; have HO_8 := n0_; have HO_10 := n1_; have HL147_0 := n2_; have HL147_3 := n3_; have HL148_0 := n4_; have HL148_3 := n5_; have HR147_0 := n6_; have HR147_3 := n7_; have HR148_0 := n8_; have HR148_3 := n9_; have HB := n10_; clear n0_ n1_ n2_ n3_ n4_ n5_ n6_ n7_ n8_ n9_ n10_; (try clear hb); (try clear hb2); (try clear hk); (try clear hi)))
                            repeat (go_quiet (first | (go_at_call 36; (with_reducible refine (sennitref21_Marked.calls k3 ((rd_T57 ((rd_T48 t143 x11_2).f2) x12_3).f0) ((rd_T57 ((rd_T48 t143 x11_2).f2) x12_3).f1) false _ A20.out).mono ?_); rintro e w25 ⟨rfl, hb⟩; have n0_ := Aside0.mk (Kd.N_below (by (with_reducible repeat (first | apply Kd.N_alloc | apply Kd.N_drewN | apply Kd.N_drew)); exact HO_8.out) hb); have n1_ := Aside0.mk (Kd.R_below (by (with_reducible repeat (first | apply Kd.R_alloc | apply Kd.R_drewN | apply Kd.R_drew)); exact HO_10.out) hb); have n2_ := Aside0.mk (Kd.V_below (by (with_reducible repeat (first | apply Kd.V_alloc | apply Kd.V_drewN | apply Kd.V_drew)); exact HL147_0.out) hb); have n3_ := Aside0.mk (Kd.V_below (by (with_reducible repeat (first | apply Kd.V_alloc | apply Kd.V_drewN | apply Kd.V_drew)); exact HL147_3.out) hb); have n4_ := Aside0.mk (Kd.V_below (by (with_reducible repeat (first | apply Kd.V_alloc | apply Kd.V_drewN | apply Kd.V_drew)); exact HL148_0.out) hb); have n5_ := Aside0.mk (Kd.V_below (by (with_reducible repeat (first | apply Kd.V_alloc | apply Kd.V_drewN | apply Kd.V_drew)); exact HL148_3.out) hb); have n6_ := Aside0.mk (Kd.C_below (by repeat (first | (with_reducible exact HR147_0.out) | (with_reducible refine Kd.C_alloc ?_ _) | (with_reducible refine Kd.C_drewN ?_ _) | (with_reducible refine Kd.C_drew ?_) | exact HR147_0.out)) hb); have n7_ := Aside0.mk (Kd.C_below (by repeat (first | (with_reducible exact HR147_3.out) | (with_reducible refine Kd.C_alloc ?_ _) | (with_reducible refine Kd.C_drewN ?_ _) | (with_reducible refine Kd.C_drew ?_) | exact HR147_3.out)) hb); have n8_ := Aside0.mk (Kd.C_below (by repeat (first | (with_reducible exact HR148_0.out) | (with_reducible refine Kd.C_alloc ?_ _) | (with_reducible refine Kd.C_drewN ?_ _) | (with_reducible refine Kd.C_drew ?_) | exact HR148_0.out)) hb); have n9_ := Aside0.mk (Kd.C_below (by repeat (first | (with_reducible exact HR148_3.out) | (with_reducible refine Kd.C_alloc ?_ _) | (with_reducible refine Kd.C_drewN ?_ _) | (with_reducible refine Kd.C_drew ?_) | exact HR148_3.out)) hb); have n10_ := Aside0.mk (below_step (by repeat (first | (with_reducible first | exact HB.out | apply below_alloc | apply pw_below_drewN | apply below_drew1) | exact HB.out)) hb); clear HO_8; clear HO_10; clear HL147_0; clear HL147_3; clear HL148_0; clear HL148_3; clear HR147_0; clear HR147_3; clear HR148_0; clear HR148_3; clear HB; have HO_8 := n0_; have HO_10 := n1_; have HL147_0 := n2_; have HL147_3 := n3_; have HL148_0 := n4_; have HL148_3 := n5_; have HR147_0 := n6_; have HR147_3 := n7_; have HR148_0 := n8_; have HR148_3 := n9_; have HB := n10_; clear n0_ n1_ n2_ n3_ n4_ n5_ n6_ n7_ n8_ n9_ n10_; (try clear hb); (try clear hb2); (try clear hk); (try clear hi))); try go_wp2_with (first | (go_at_call 36; (with_reducible refine (sennitref21_Marked.calls k3 ((rd_T57 ((rd_T48 t143 x11_2).f2) x12_3).f0) ((rd_T57 ((rd_T48 t143 x11_2).f2) x12_3).f1) false _ A20.out).mono ?_); rintro e w25 ⟨rfl, hb⟩; have n0_ := Aside0.mk (Kd.N_below (by (with_reducible repeat (first | apply Kd.N_alloc | apply Kd.N_drewN | apply Kd.N_drew)); exact HO_8.out) hb); have n1_ := Aside0.mk (Kd.R_below (by (with_reducible repeat (first | apply Kd.R_alloc | apply Kd.R_drewN | apply Kd.R_drew)); exact HO_10.out) hb); have n2_ := Aside0.mk (Kd.V_below (by (with_reducible repeat (first | apply Kd.V_alloc | apply Kd.V_drewN | apply Kd.V_drew)); exact HL147_0.out) hb); have n3_ := Aside0.mk (Kd.V_below (by (with_reducible repeat (first | apply Kd.V_alloc | apply Kd.V_drewN | apply Kd.V_drew)); exact HL147_3.out) hb); have n4_ := Aside0.mk (Kd.V_below (by (with_reducible repeat (first | apply Kd.V_alloc | apply Kd.V_drewN | apply Kd.V_drew)); exact HL148_0.out) hb); have n5_ := Aside0.mk (Kd.V_below (by (with_reducible repeat (first | apply Kd.V_alloc | apply Kd.V_drewN | apply Kd.V_drew)); exact HL148_3.out) hb); have n6_ := Aside0.mk (Kd.C_below (by repeat (first | (with_reducible exact HR147_0.out) | (with_reducible refine Kd.C_alloc ?_ _) | (with_reducible refine Kd.C_drewN ?_ _) | (with_reducible refine Kd.C_drew ?_) | exact HR147_0.out)) hb); have n7_ := Aside0.mk (Kd.C_below (by repeat (first | (with_reducible exact HR147_3.out) | (with_reducible refine Kd.C_alloc ?_ _) | (with_reducible refine Kd.C_drewN ?_ _) | (with_reducible refine Kd.C_drew ?_) | exact HR147_3.out)) hb); have n8_ := Aside0.mk (Kd.C_below (by repeat (first | (with_reducible exact HR148_0.out) | (with_reducible refine Kd.C_alloc ?_ _) | (with_reducible refine Kd.C_drewN ?_ _) | (with_reducible refine Kd.C_drew ?_) | exact HR148_0.out)) hb); have n9_ := Aside0.mk (Kd.C_below (by repeat (first | (with_reducible exact HR148_3.out) | (with_reducible refine Kd.C_alloc ?_ _) | (with_reducible refine Kd.C_drewN ?_ _) | (with_reducible refine Kd.C_drew ?_) | exact HR148_3.out)) hb); have n10_ := Aside0.mk (below_step (by repeat (first | (with_reducible first | exact HB.out | apply below_alloc | apply pw_below_drewN | apply below_drew1) | exact HB.out)) hb); clear HO_8; clear HO_10; clear HL147_0; clear HL147_3; clear HL148_0; clear HL148_3; clear HR147_0; clear HR147_3; clear HR148_0; clear HR148_3; clear HB; have HO_8 := n0_; have HO_10 := n1_; have HL147_0 := n2_; have HL147_3 := n3_; have HL148_0 := n4_; have HL148_3 := n5_; have HR147_0 := n6_; have HR147_3 := n7_; have HR148_0 := n8_; have HR148_3 := n9_; have HB := n10_; clear n0_ n1_ n2_ n3_ n4_ n5_ n6_ n7_ n8_ n9_ n10_; (try clear hb); (try clear hb2); (try clear hk); (try clear hi))))
                            go_roundg k3
                            case measure => have := HJ4.out; have := HK2.out; have := HK3.out; omega
                            case rel => exact ⟨(x10_3), (wrap64 (x12_3 + 1)), (by first | rfl | (simp; done) | (simp [*]; done)), H', ⟨by have := HJ4.out; have := HK2.out; have := HK3.out; omega⟩, ⟨by (with_reducible repeat (first | apply Kd.N_alloc | apply Kd.N_drewN | apply Kd.N_drew)); exact HO_8.out⟩, ⟨by (with_reducible repeat (first | apply Kd.R_alloc | apply Kd.R_drewN | apply Kd.R_drew)); exact HO_10.out⟩, ⟨by repeat (first | (with_reducible first | exact HB.out | apply below_alloc | apply pw_below_drewN | apply below_drew1) | exact HB.out)⟩⟩
                        · rw [if_neg c19] at H
                          exact absurd H (by simp)
                      · rw [if_neg c18] at H
                        have c18b0 : decide (x12_3 < (((rd_T48 t143 x11_2).f2).length : Int)) = false := decide_eq_false c18
                        clear c18
                        have H' := Aside0.mk H
                        clear H
                        have p147 : 0 ≤ (x11_2 : Int) := of_decide_eq_true (by first | (with_reducible assumption) | assumption)
                        have q147 : x11_2 < (t143.length : Int) := of_decide_eq_true (by first | (with_reducible assumption) | assumption)
                        obtain ⟨ad147, A147_0, c147_0, A147_3, c147_3, e147, hx147_0, hx147_1, hx147_2, hx147_3, hl147_0, hi147_0, hl147_3, hi147_3⟩ := at_T48 (Kd.N_reads' HO_8.out).2.2 x11_2 p147 q147
                        cases e147
                        obtain ⟨ce147, hce147, hMe147, hcc147⟩ := Kd.N_get HO_8.out z48 x11_2 p147 (by first | exact q147 | exact of_decide_eq_true (by first | (with_reducible assumption) | assumption) | (have e_ := (Kd.N_reads' HO_8.out).1; omega))
                        obtain ⟨ua147_0, uc147_0, ua147_3, uc147_3, rfl, ul147_0, ge147_0, ul147_3, ge147_3⟩ := k48_openF hMe147
                        have hv147_0 := hcc147 0 _ rfl
                        rw [Nat.add_zero] at hv147_0
                        replace hv147_0 := Option.some.inj (hv147_0.symm.trans hx147_0)
                        injection hv147_0 with hva_ hvn_ hvc_
                        rw [hva_] at ge147_0
                        rw [hvc_] at ul147_0
                        have HL147_0 := Aside0.mk (show Kd.V k45 45 _ w.heap.size _ _ ((rd_T48 t143 x11_2).f0) from Kd.V_mk ul147_0 ge147_0)
                        clear hva_ hvn_ hvc_ ge147_0 ul147_0
                        have hv147_3 := hcc147 3 _ rfl
                        rw [add_field _ _ 3 (by omega)] at hv147_3
                        replace hv147_3 := Option.some.inj (hv147_3.symm.trans hx147_3)
                        injection hv147_3 with hva_ hvn_ hvc_
                        rw [hva_] at ge147_3
                        rw [hvc_] at ul147_3
                        have HL147_3 := Aside0.mk (show Kd.V k57 57 _ w.heap.size _ _ ((rd_T48 t143 x11_2).f2) from Kd.V_mk ul147_3 ge147_3)
                        clear hva_ hvn_ hvc_ ge147_3 ul147_3
                        clear hcc147 hce147
                        have HR147_0 := Aside0.mk hi147_0
                        have HC147_0 := Aside0.mk hl147_0
                        clear hi147_0 hl147_0
                        have HR147_3 := Aside0.mk hi147_3
                        have HC147_3 := Aside0.mk hl147_3
                        clear hi147_3 hl147_3
                        replace p147 := eq_true p147
                        replace q147 := eq_true q147
                        go_wp2
                        repeat (go_quiet (fail); try go_wp2)
                        go_roundg k3
                        case measure => have := HJ4.out; have := HK2.out; have := HK3.out; omega
                        case rel => exact ⟨(x10_3), (wrap64 (x11_2 + 1)), (by first | rfl | (simp; done) | (simp [*]; done)), H', ⟨by have := HJ4.out; have := HK2.out; have := HK3.out; omega⟩, ⟨by (with_reducible repeat (first | apply Kd.N_alloc | apply Kd.N_drewN | apply Kd.N_drew)); exact HO_8.out⟩, ⟨by (with_reducible repeat (first | apply Kd.R_alloc | apply Kd.R_drewN | apply Kd.R_drew)); exact HO_10.out⟩, ⟨by repeat (first | (with_reducible first | exact HB.out | apply below_alloc | apply pw_below_drewN | apply below_drew1) | exact HB.out)⟩⟩
                    · rw [if_neg c17] at H
                      exact absurd H (by simp)
                  · rw [if_neg c16] at H
                    exact absurd H (by simp)
            · rw [if_neg c14] at H
              have c14b0 : decide (x11_2 < (t143.length : Int)) = false := decide_eq_false c14
              clear c14
              replace H := Option.bind_eq_some_iff.mp H
              obtain ⟨t156, A260, H⟩ := H
              replace H : (sennitlaw21_HunkCovers.l2 k2 l0 a2 t140 t146 x10_2 ([] : List (S57)) t156 0) = some r := H
              have A26 := Aside0.mk A260
              clear A260
              have H' := Aside0.mk H
              clear H
              obtain ⟨Ao27, co27, eo27⟩ := Kd.N_slice HO_8.out
              subst eo27
              go_wp2_with (first | (go_at_call 32; (with_reducible refine (sennitref21_Groups.calls k2 _ _ l0 t156 _ ?side1 ?side2 A26.out).mono ?_); (case side1 => repeat (first | exact (Kd.C_below HR0.out HB.out) | (with_reducible refine Kd.C_alloc ?_ _) | (with_reducible refine Kd.C_drewN ?_ _) | (with_reducible refine Kd.C_drew ?_))); (case side2 => exact HC0.out); rintro e w28 ⟨v157, rfl, ho0, hb⟩; have n0_ := Aside0.mk (Kd.N_elder' (by (with_reducible repeat (first | apply Kd.N_alloc | apply Kd.N_drewN | apply Kd.N_drew)); exact HO_8.out) (Kd.R_base ho0) hb); have n1_ := Aside0.mk (Kd.R_below (by (with_reducible repeat (first | apply Kd.R_alloc | apply Kd.R_drewN | apply Kd.R_drew)); exact HO_10.out) hb); have n2_ := Aside0.mk (Kd.R_lower ho0 (below_size (by repeat (first | (with_reducible first | exact HB.out | apply below_alloc | apply pw_below_drewN | apply below_drew1) | exact HB.out)))); have n3_ := Aside0.mk (below_step (by repeat (first | (with_reducible first | exact HB.out | apply below_alloc | apply pw_below_drewN | apply below_drew1) | exact HB.out)) hb); clear HO_8; clear HO_10; clear HB; have HO_8 := n0_; have HO_10 := n1_; have HO158 := n2_; have HB := n3_; clear n0_ n1_ n2_ n3_; (try clear hb); (try clear hb2); (try clear hk); (try clear hi); (try clear ho0)))
              repeat (go_quiet (first | (go_at_call 32; (with_reducible refine (sennitref21_Groups.calls k2 _ _ l0 t156 _ ?side1 ?side2 A26.out).mono ?_); (case side1 => repeat (first | exact (Kd.C_below HR0.out HB.out) | (with_reducible refine Kd.C_alloc ?_ _) | (with_reducible refine Kd.C_drewN ?_ _) | (with_reducible refine Kd.C_drew ?_))); (case side2 => exact HC0.out); rintro e w28 ⟨v157, rfl, ho0, hb⟩; have n0_ := Aside0.mk (Kd.N_elder' (by (with_reducible repeat (first | apply Kd.N_alloc | apply Kd.N_drewN | apply Kd.N_drew)); exact HO_8.out) (Kd.R_base ho0) hb); have n1_ := Aside0.mk (Kd.R_below (by (with_reducible repeat (first | apply Kd.R_alloc | apply Kd.R_drewN | apply Kd.R_drew)); exact HO_10.out) hb); have n2_ := Aside0.mk (Kd.R_lower ho0 (below_size (by repeat (first | (with_reducible first | exact HB.out | apply below_alloc | apply pw_below_drewN | apply below_drew1) | exact HB.out)))); have n3_ := Aside0.mk (below_step (by repeat (first | (with_reducible first | exact HB.out | apply below_alloc | apply pw_below_drewN | apply below_drew1) | exact HB.out)) hb); clear HO_8; clear HO_10; clear HB; have HO_8 := n0_; have HO_10 := n1_; have HO158 := n2_; have HB := n3_; clear n0_ n1_ n2_ n3_; (try clear hb); (try clear hb2); (try clear hk); (try clear hi); (try clear ho0))); try go_wp2_with (first | (go_at_call 32; (with_reducible refine (sennitref21_Groups.calls k2 _ _ l0 t156 _ ?side1 ?side2 A26.out).mono ?_); (case side1 => repeat (first | exact (Kd.C_below HR0.out HB.out) | (with_reducible refine Kd.C_alloc ?_ _) | (with_reducible refine Kd.C_drewN ?_ _) | (with_reducible refine Kd.C_drew ?_))); (case side2 => exact HC0.out); rintro e w28 ⟨v157, rfl, ho0, hb⟩; have n0_ := Aside0.mk (Kd.N_elder' (by (with_reducible repeat (first | apply Kd.N_alloc | apply Kd.N_drewN | apply Kd.N_drew)); exact HO_8.out) (Kd.R_base ho0) hb); have n1_ := Aside0.mk (Kd.R_below (by (with_reducible repeat (first | apply Kd.R_alloc | apply Kd.R_drewN | apply Kd.R_drew)); exact HO_10.out) hb); have n2_ := Aside0.mk (Kd.R_lower ho0 (below_size (by repeat (first | (with_reducible first | exact HB.out | apply below_alloc | apply pw_below_drewN | apply below_drew1) | exact HB.out)))); have n3_ := Aside0.mk (below_step (by repeat (first | (with_reducible first | exact HB.out | apply below_alloc | apply pw_below_drewN | apply below_drew1) | exact HB.out)) hb); clear HO_8; clear HO_10; clear HB; have HO_8 := n0_; have HO_10 := n1_; have HO158 := n2_; have HB := n3_; clear n0_ n1_ n2_ n3_; (try clear hb); (try clear hb2); (try clear hk); (try clear hi); (try clear ho0))))
              go_loopg [13, 15] k2 (fun kq v13 v15 w' => ∃ (x13_3 : List (S57)) (x15_3 : Int), v15 = .int .i64 x15_3 ∧ Aside0 (sennitlaw21_HunkCovers.l2 kq l0 a2 t140 t146 x10_2 x13_3 t156 x15_3 = some r) ∧ Aside0 (kq ≤ k2) ∧ Aside0 (Kd.R k57 57 w' w.heap.size (fun k_ => some k_ ≠ (v13 : Value).ownBlock) u10 x10_2) ∧ Aside0 (Kd.R k57 57 w' w.heap.size (fun k_ => some k_ ≠ (u10 : Value).ownBlock) v13 x13_3) ∧ Aside0 (Kd.R k45 45 w' w.heap.size (fun _ => True) v157 t156) ∧ Aside0 (Below w.heap.size w w'))
              case atStart => exact ⟨(([] : List (S57))), (0), (by first | rfl | (simp; done) | (simp [*]; done)), H', ⟨Nat.le_refl _⟩, ⟨by (with_reducible repeat (first | apply Kd.R_alloc | apply Kd.R_drewN | apply Kd.R_drew)); exact Kd.R_mono HO_10.out (fun _ hk => (by simp [Value.ownBlock]))⟩, ⟨by first | exact Kd.R_nil _ _ _ _ _ | exact Kd.N_nil _ _ _ _ _ | exact Kd.V_nil _ _ _ _ _ | exact Kd.Q_nil _ _ _ _ _ | exact Kd.S_nil _ _ _ _ _⟩, ⟨by (with_reducible repeat (first | apply Kd.R_alloc | apply Kd.R_drewN | apply Kd.R_drew)); exact HO158.out⟩, ⟨by repeat (first | (with_reducible first | exact HB.out | apply below_alloc | apply pw_below_drewN | apply below_drew1) | exact HB.out)⟩⟩
              case round =>
                clear H'
                try clear c1
                try clear p1
                try clear q1
                try clear hx1
                try clear c2
                try clear p2
                try clear p6
                try clear c8
                try clear c10
                try clear c11
                try clear c14
                try clear c14b0
                try clear p14
                try clear q14
                try clear hx14
                try clear c15
                try clear p15
                try clear q15
                try clear hx15
                try clear c16
                try clear c16b0
                try clear c17
                try clear c17b0
                try clear c18
                try clear c18b0
                try clear c19
                try clear c19b0
                try clear c21
                try clear c22
                try clear hx147_0
                try clear hx147_1
                try clear hx147_2
                try clear hx147_3
                try clear hx148_0
                try clear hx148_1
                try clear hx148_2
                try clear hx148_3
                try clear hx149_0
                try clear hx149_1
                try clear hx151_0
                try clear hx151_1
                try clear hx151_2
                try clear hx151_3
                try clear hx152_0
                try clear hx152_1
                try clear p147
                try clear p148
                try clear p149
                try clear p151
                try clear p152
                try clear p2
                try clear p6
                try clear q147
                try clear q148
                try clear q149
                try clear q151
                try clear q152
                obtain ⟨x13_3, x15_3, rfl, HA, HK3, HO_10, HO_13, HO_14, HB⟩ := hrel
                cases gk with
                | zero => exact absurd HA.out (by simp [sennitlaw21_HunkCovers.l2])
                | succ k3 =>
                  have H := HA.out
                  clear HA
                  simp only [sennitlaw21_HunkCovers.l2] at H
                  by_cases c29 : x15_3 < (t156.length : Int)
                  · rw [if_pos c29] at H
                    have c29b0 : decide (x15_3 < (t156.length : Int)) = true := decide_eq_true c29
                    clear c29
                    by_cases c30 : 0 ≤ x15_3
                    · rw [if_pos c30] at H
                      have c30b0 : decide (0 ≤ x15_3) = true := decide_eq_true c30
                      clear c30
                      by_cases c31 : 0 ≤ ((rd_T45 t156 x15_3).f0)
                      · rw [if_pos c31] at H
                        have c31b0 := eq_true c31
                        have c31b1 : decide (0 ≤ ((rd_T45 t156 x15_3).f0)) = true := decide_eq_true c31
                        clear c31
                        by_cases c32 : ((rd_T45 t156 x15_3).f0) ≤ ((rd_T45 t156 x15_3).f1)
                        · rw [if_pos c32] at H
                          have c32b0 := eq_true c32
                          have c32b1 : decide (((rd_T45 t156 x15_3).f0) ≤ ((rd_T45 t156 x15_3).f1)) = true := decide_eq_true c32
                          clear c32
                          by_cases c33 : ((rd_T45 t156 x15_3).f1) ≤ (l0.length : Int)
                          · rw [if_pos c33] at H
                            have c33b0 := eq_true c33
                            have c33b1 : decide (((rd_T45 t156 x15_3).f1) ≤ (l0.length : Int)) = true := decide_eq_true c33
                            clear c33
                            obtain ⟨y161, hy161⟩ : ∃ y_ : List (S57), y_ = ((l0.take (((rd_T45 t156 x15_3).f1) : Int).toNat).drop (((rd_T45 t156 x15_3).f0) : Int).toNat) := ⟨_, rfl⟩
                            replace H : (if a2 = true then ((sennitref21_Dull.f k3 y161).bind fun t165 => (if t165 = true then (sennitlaw21_HunkCovers.l2 k3 l0 a2 t140 t146 x10_2 x13_3 t156 (wrap64 (x15_3 + 1))) else (if x13_3.length + y161.length < 4398046511104 then (sennitlaw21_HunkCovers.l2 k3 l0 a2 t140 t146 x10_2 (x13_3 ++ y161) t156 (wrap64 (x15_3 + 1))) else (none)))) else (if x13_3.length + y161.length < 4398046511104 then (sennitlaw21_HunkCovers.l2 k3 l0 a2 t140 t146 x10_2 (x13_3 ++ y161) t156 (wrap64 (x15_3 + 1))) else (none))) = some r := by first | (rw [hy161]; with_reducible exact H) | (have H2_ := (Option.bind_some _ _).symm.trans H; rw [hy161]; with_reducible exact H2_) | (have H2_ := (Option.bind_some _ _).symm.trans H; with_reducible exact H2_) | with_reducible exact H | (rw [hy161]; exact H) | exact H
                            have Ny161 := Aside0.mk hy161
                            clear hy161
                            by_cases c34 : a2 = true
                            · subst c34
                              have H1 : ((sennitref21_Dull.f k3 y161).bind fun t165 => (if t165 = true then (sennitlaw21_HunkCovers.l2 k3 l0 true t140 t146 x10_2 x13_3 t156 (wrap64 (x15_3 + 1))) else (if x13_3.length + y161.length < 4398046511104 then (sennitlaw21_HunkCovers.l2 k3 l0 true t140 t146 x10_2 (x13_3 ++ y161) t156 (wrap64 (x15_3 + 1))) else (none)))) = some r := by rw [if_pos rfl] at H; exact H
                              clear H
                              have H := H1
                              clear H1
                              replace H := Option.bind_eq_some_iff.mp H
                              obtain ⟨t165, A350, H⟩ := H
                              replace H : (if t165 = true then (sennitlaw21_HunkCovers.l2 k3 l0 true t140 t146 x10_2 x13_3 t156 (wrap64 (x15_3 + 1))) else (if x13_3.length + y161.length < 4398046511104 then (sennitlaw21_HunkCovers.l2 k3 l0 true t140 t146 x10_2 (x13_3 ++ y161) t156 (wrap64 (x15_3 + 1))) else (none))) = some r := H
                              have A35 := Aside0.mk A350
                              clear A350
                              by_cases c36 : t165 = true
                              · subst c36
                                have H1 : (sennitlaw21_HunkCovers.l2 k3 l0 true t140 t146 x10_2 x13_3 t156 (wrap64 (x15_3 + 1))) = some r := by rw [if_pos rfl] at H; exact H
                                clear H
                                have H := H1
                                clear H1
                                have H' := Aside0.mk H
                                clear H
                                obtain ⟨Ao37, co37, eo37⟩ := Kd.R_slice HO_14.out
                                subst eo37
                                have p159 : 0 ≤ (x15_3 : Int) := of_decide_eq_true (by first | (with_reducible assumption) | assumption)
                                have q159 : x15_3 < (t156.length : Int) := of_decide_eq_true (by first | (with_reducible assumption) | assumption)
                                obtain ⟨ad159, e159, hx159_0, hx159_1⟩ := at_T45 (Kd.R_reads' HO_14.out).2.2 x15_3 p159 q159
                                cases e159
                                replace p159 := eq_true p159
                                replace q159 := eq_true q159
                                have p160 : 0 ≤ (x15_3 : Int) := of_decide_eq_true (by first | (with_reducible assumption) | assumption)
                                have q160 : x15_3 < (t156.length : Int) := of_decide_eq_true (by first | (with_reducible assumption) | assumption)
                                obtain ⟨ad160, e160, hx160_0, hx160_1⟩ := at_T45 (Kd.R_reads' HO_14.out).2.2 x15_3 p160 q160
                                obtain rfl : ad159 = ad160 := (by injection e160)
                                replace p160 := eq_true p160
                                replace q160 := eq_true q160
                                have q38 : (((rd_T45 t156 x15_3).f1) : Int) ≤ ((l0.length : Int) : Int) := of_decide_eq_true (by first | (with_reducible assumption) | assumption)
                                obtain ⟨i038, hi038, _, hsz38, _⟩ := info_parts info57
                                have hroom38 : l0.length ≤ c0 := HC0.out
                                have hC38 : Kd.C k57 _ A0 l0.length l0 := HR0.out
                                have ql38 : (((rd_T45 t156 x15_3).f0) : Int) ≤ (((rd_T45 t156 x15_3).f1) : Int) := of_decide_eq_true (by first | (with_reducible assumption) | assumption)
                                have q038 : (0 : Int) ≤ (((rd_T45 t156 x15_3).f0) : Int) := of_decide_eq_true (by first | (with_reducible assumption) | assumption)
                                have hcut38 := cut_mid (P := Tryd.prog) 36 57 .i64 .i64 Tryd.underlying36 hi038 2 hsz38 A0 l0.length c0 ((rd_T45 t156 x15_3).f0) ((rd_T45 t156 x15_3).f1) q038 ql38 q38 hroom38
                                have hr38 := Kd.C_mid (lo := (((rd_T45 t156 x15_3).f0) : Int).toNat) (hi := (((rd_T45 t156 x15_3).f1) : Int).toNat) (c := c0) hC38 (by omega) (by omega) hroom38
                                obtain ⟨A38, hA38⟩ : ∃ Az_, Az_ = (if c0 = (((rd_T45 t156 x15_3).f0) : Int).toNat then A0 else (A0 : Option Addr).map (·.add ((((rd_T45 t156 x15_3).f0) : Int).toNat * 2))) := ⟨_, rfl⟩
                                obtain ⟨c38, hc38⟩ : ∃ c1, c1 = c0 - (((rd_T45 t156 x15_3).f0) : Int).toNat := ⟨_, rfl⟩
                                have hy38 : y161.length = (((rd_T45 t156 x15_3).f1) : Int).toNat - (((rd_T45 t156 x15_3).f0) : Int).toNat := (by rw [Ny161.out, List.length_drop, List.length_take] <;> omega)
                                rw [show ((l0).take (((rd_T45 t156 x15_3).f1) : Int).toNat).drop (((rd_T45 t156 x15_3).f0) : Int).toNat = y161 from Ny161.out.symm] at hr38
                                replace hr38 : Kd.C k57 _ A38 y161.length y161 := (by rw [hA38]; exact hr38)
                                rw [← hy38, ← hA38, ← hc38] at hcut38
                                have HR164 := Aside0.mk hr38
                                have HC164 := Aside0.mk (show y161.length ≤ c38 from by rw [hy38, hc38]; exact Nat.sub_le_sub_right (Nat.le_trans (by omega) hroom38) _)
                                clear hr38 hC38 hroom38 hi038 hsz38 hc38
                                have KY38 := Aside0.mk hy38
                                have KA38 := Aside0.mk hA38
                                clear hy38 hA38
                                replace q38 := eq_true q38
                                go_wp2_with (first | (go_at_call 34; (with_reducible refine (sennitref21_Dull.calls k3 _ _ y161 true _ ?side1 ?side2 A35.out).mono ?_); (case side1 => repeat (first | exact (Kd.C_below HR164.out HB.out) | (with_reducible refine Kd.C_alloc ?_ _) | (with_reducible refine Kd.C_drewN ?_ _) | (with_reducible refine Kd.C_drew ?_))); (case side2 => exact HC164.out); rintro e w' ⟨rfl, ⟨nd, rfl⟩⟩; (try first | exact ⟨rfl, _, World.drewN_drewN _ _ _⟩ | exact ⟨rfl, _, Eq.trans (World.drewN_drewN _ _ _) (congrArg (World.drewN _) (Nat.add_assoc _ _ _))⟩)))
                                repeat (go_quiet (first | (go_at_call 34; (with_reducible refine (sennitref21_Dull.calls k3 _ _ y161 true _ ?side1 ?side2 A35.out).mono ?_); (case side1 => repeat (first | exact (Kd.C_below HR164.out HB.out) | (with_reducible refine Kd.C_alloc ?_ _) | (with_reducible refine Kd.C_drewN ?_ _) | (with_reducible refine Kd.C_drew ?_))); (case side2 => exact HC164.out); rintro e w' ⟨rfl, ⟨nd, rfl⟩⟩; (try first | exact ⟨rfl, _, World.drewN_drewN _ _ _⟩ | exact ⟨rfl, _, Eq.trans (World.drewN_drewN _ _ _) (congrArg (World.drewN _) (Nat.add_assoc _ _ _))⟩))); try go_wp2_with (first | (go_at_call 34; (with_reducible refine (sennitref21_Dull.calls k3 _ _ y161 true _ ?side1 ?side2 A35.out).mono ?_); (case side1 => repeat (first | exact (Kd.C_below HR164.out HB.out) | (with_reducible refine Kd.C_alloc ?_ _) | (with_reducible refine Kd.C_drewN ?_ _) | (with_reducible refine Kd.C_drew ?_))); (case side2 => exact HC164.out); rintro e w' ⟨rfl, ⟨nd, rfl⟩⟩; (try first | exact ⟨rfl, _, World.drewN_drewN _ _ _⟩ | exact ⟨rfl, _, Eq.trans (World.drewN_drewN _ _ _) (congrArg (World.drewN _) (Nat.add_assoc _ _ _))⟩))))
                                go_roundg k3
                                case measure => have := HJ4.out; have := HK2.out; have := HK3.out; omega
                                case rel => exact ⟨(x13_3), (wrap64 (x15_3 + 1)), (by first | rfl | (simp; done) | (simp [*]; done)), H', ⟨by have := HJ4.out; have := HK2.out; have := HK3.out; omega⟩, ⟨by (with_reducible repeat (first | apply Kd.R_alloc | apply Kd.R_drewN | apply Kd.R_drew)); exact HO_10.out⟩, ⟨by (with_reducible repeat (first | apply Kd.R_alloc | apply Kd.R_drewN | apply Kd.R_drew)); exact HO_13.out⟩, ⟨by (with_reducible repeat (first | apply Kd.R_alloc | apply Kd.R_drewN | apply Kd.R_drew)); exact HO_14.out⟩, ⟨by repeat (first | (with_reducible first | exact HB.out | apply below_alloc | apply pw_below_drewN | apply below_drew1) | exact HB.out)⟩⟩
                              · replace c36 := Bool.eq_false_iff.mpr c36
                                subst c36
                                have H1 : (if x13_3.length + y161.length < 4398046511104 then (sennitlaw21_HunkCovers.l2 k3 l0 true t140 t146 x10_2 (x13_3 ++ y161) t156 (wrap64 (x15_3 + 1))) else (none)) = some r := by rw [if_neg (show ¬ (false = true) by decide)] at H; exact H
                                clear H
                                have H := H1
                                clear H1
                                by_cases c39 : x13_3.length + y161.length < 4398046511104
                                · rw [if_pos c39] at H
                                  have LMc39 := Aside0.mk c39
                                  clear c39
                                  obtain ⟨y166, hy166⟩ : ∃ y_ : List (S57), y_ = (x13_3 ++ y161) := ⟨_, rfl⟩
                                  replace H : (sennitlaw21_HunkCovers.l2 k3 l0 true t140 t146 x10_2 y166 t156 (wrap64 (x15_3 + 1))) = some r := by first | (rw [hy166]; with_reducible exact H) | (have H2_ := (Option.bind_some _ _).symm.trans H; rw [hy166]; with_reducible exact H2_) | (have H2_ := (Option.bind_some _ _).symm.trans H; with_reducible exact H2_) | with_reducible exact H | (rw [hy166]; exact H) | exact H
                                  have Ny166 := Aside0.mk hy166
                                  clear hy166
                                  have H' := Aside0.mk H
                                  clear H
                                  obtain ⟨Ao40, co40, eo40⟩ := Kd.R_slice HO_14.out
                                  subst eo40
                                  have p159 : 0 ≤ (x15_3 : Int) := of_decide_eq_true (by first | (with_reducible assumption) | assumption)
                                  have q159 : x15_3 < (t156.length : Int) := of_decide_eq_true (by first | (with_reducible assumption) | assumption)
                                  obtain ⟨ad159, e159, hx159_0, hx159_1⟩ := at_T45 (Kd.R_reads' HO_14.out).2.2 x15_3 p159 q159
                                  cases e159
                                  replace p159 := eq_true p159
                                  replace q159 := eq_true q159
                                  have p160 : 0 ≤ (x15_3 : Int) := of_decide_eq_true (by first | (with_reducible assumption) | assumption)
                                  have q160 : x15_3 < (t156.length : Int) := of_decide_eq_true (by first | (with_reducible assumption) | assumption)
                                  obtain ⟨ad160, e160, hx160_0, hx160_1⟩ := at_T45 (Kd.R_reads' HO_14.out).2.2 x15_3 p160 q160
                                  obtain rfl : ad159 = ad160 := (by injection e160)
                                  replace p160 := eq_true p160
                                  replace q160 := eq_true q160
                                  have q41 : (((rd_T45 t156 x15_3).f1) : Int) ≤ ((l0.length : Int) : Int) := of_decide_eq_true (by first | (with_reducible assumption) | assumption)
                                  obtain ⟨i041, hi041, _, hsz41, _⟩ := info_parts info57
                                  have hroom41 : l0.length ≤ c0 := HC0.out
                                  have hC41 : Kd.C k57 _ A0 l0.length l0 := HR0.out
                                  have ql41 : (((rd_T45 t156 x15_3).f0) : Int) ≤ (((rd_T45 t156 x15_3).f1) : Int) := of_decide_eq_true (by first | (with_reducible assumption) | assumption)
                                  have q041 : (0 : Int) ≤ (((rd_T45 t156 x15_3).f0) : Int) := of_decide_eq_true (by first | (with_reducible assumption) | assumption)
                                  have hcut41 := cut_mid (P := Tryd.prog) 36 57 .i64 .i64 Tryd.underlying36 hi041 2 hsz41 A0 l0.length c0 ((rd_T45 t156 x15_3).f0) ((rd_T45 t156 x15_3).f1) q041 ql41 q41 hroom41
                                  have hr41 := Kd.C_mid (lo := (((rd_T45 t156 x15_3).f0) : Int).toNat) (hi := (((rd_T45 t156 x15_3).f1) : Int).toNat) (c := c0) hC41 (by omega) (by omega) hroom41
                                  obtain ⟨A41, hA41⟩ : ∃ Az_, Az_ = (if c0 = (((rd_T45 t156 x15_3).f0) : Int).toNat then A0 else (A0 : Option Addr).map (·.add ((((rd_T45 t156 x15_3).f0) : Int).toNat * 2))) := ⟨_, rfl⟩
                                  obtain ⟨c41, hc41⟩ : ∃ c1, c1 = c0 - (((rd_T45 t156 x15_3).f0) : Int).toNat := ⟨_, rfl⟩
                                  have hy41 : y161.length = (((rd_T45 t156 x15_3).f1) : Int).toNat - (((rd_T45 t156 x15_3).f0) : Int).toNat := (by rw [Ny161.out, List.length_drop, List.length_take] <;> omega)
                                  rw [show ((l0).take (((rd_T45 t156 x15_3).f1) : Int).toNat).drop (((rd_T45 t156 x15_3).f0) : Int).toNat = y161 from Ny161.out.symm] at hr41
                                  replace hr41 : Kd.C k57 _ A41 y161.length y161 := (by rw [hA41]; exact hr41)
                                  rw [← hy41, ← hA41, ← hc41] at hcut41
                                  have HR164 := Aside0.mk hr41
                                  have HC164 := Aside0.mk (show y161.length ≤ c41 from by rw [hy41, hc41]; exact Nat.sub_le_sub_right (Nat.le_trans (by omega) hroom41) _)
                                  clear hr41 hC41 hroom41 hi041 hsz41 hc41
                                  have KY41 := Aside0.mk hy41
                                  have KA41 := Aside0.mk hA41
                                  clear hy41 hA41
                                  replace q41 := eq_true q41
                                  go_wp2_with (first | (go_at_call 34; (with_reducible refine (sennitref21_Dull.calls k3 _ _ y161 false _ ?side1 ?side2 A35.out).mono ?_); (case side1 => repeat (first | exact (Kd.C_below HR164.out HB.out) | (with_reducible refine Kd.C_alloc ?_ _) | (with_reducible refine Kd.C_drewN ?_ _) | (with_reducible refine Kd.C_drew ?_))); (case side2 => exact HC164.out); rintro e w' ⟨rfl, ⟨nd, rfl⟩⟩; (try first | exact ⟨rfl, _, World.drewN_drewN _ _ _⟩ | exact ⟨rfl, _, Eq.trans (World.drewN_drewN _ _ _) (congrArg (World.drewN _) (Nat.add_assoc _ _ _))⟩)) | ((with_reducible refine gate_builtin (b := .append) (xs := #[.tmp 98, .tmp 99]) rfl ?_); at_builtin; refine Kd.R_append_rows k57 (w0 := w) w.heap.size rfl (.tmp 98) (.tmp 99) 36 57 (.agg #[(.string ⟨#[]⟩), (.string ⟨#[]⟩)]) 32 rfl Tryd.underlying36 info57 rfl (by decide) (by omega) u13 x13_3 y161 _ _ _ (fun k_ => some k_ ≠ (u10 : Value).ownBlock) (fun _ => False) rfl rfl ?aO ?aR (fun _ _ h => h) (fun _ h => h.elim) ?aF ?aB ?aS ?aL ?_; (case aR => repeat (first | exact (Kd.C_below HR164.out (by repeat (first | (with_reducible first | exact HB.out | apply below_alloc | apply pw_below_drewN | apply below_drew1) | exact HB.out))) | (with_reducible refine Kd.C_alloc ?_ _) | (with_reducible refine Kd.C_drewN ?_ _) | (with_reducible refine Kd.C_drew ?_))); (case aB => exact (by repeat (first | (with_reducible first | exact HB.out | apply below_alloc | apply pw_below_drewN | apply below_drew1) | exact HB.out))); (case aF => exact (fun k_ hk => Kd.fresh' (Kd.R_lt (by (with_reducible repeat (first | apply Kd.R_alloc | apply Kd.R_drewN | apply Kd.R_drew)); exact HO_10.out)) k_ hk)); (case aO => exact (by (with_reducible repeat (first | apply Kd.R_alloc | apply Kd.R_drewN | apply Kd.R_drew)); exact HO_13.out)); (case aS => exact (below_size (by repeat (first | (with_reducible first | exact HB.out | apply below_alloc | apply pw_below_drewN | apply below_drew1) | exact HB.out)))); (case aL => have := LMc39.out; omega); intro v167 w42 ho hb hg hat; rw [← Ny166.out] at ho; have n0_ := Aside0.mk (Kd.R_after (ok := (fun _ => True)) (by (with_reducible repeat (first | apply Kd.R_alloc | apply Kd.R_drewN | apply Kd.R_drew)); exact Kd.R_mono HO_10.out (fun _ hk => ⟨trivial, hk⟩)) hg hat); have n1_ := Aside0.mk (Kd.R_over' (by (with_reducible repeat (first | apply Kd.R_alloc | apply Kd.R_drewN | apply Kd.R_drew)); exact HO_14.out) (Kd.R_typed (by (with_reducible repeat (first | apply Kd.R_alloc | apply Kd.R_drewN | apply Kd.R_drew)); exact HO_13.out)) (by decide) hg); have n2_ := Aside0.mk (hb); have n3_ := Aside0.mk (ho); clear HO_10; clear HO_14; clear HB; clear HO_13; have HO_10 := n0_; have HO_14 := n1_; have HB := n2_; have HO168 := n3_; clear n0_ n1_ n2_ n3_; clear ho hb hg hat))
                                  repeat (go_quiet (first | (go_at_call 34; (with_reducible refine (sennitref21_Dull.calls k3 _ _ y161 false _ ?side1 ?side2 A35.out).mono ?_); (case side1 => repeat (first | exact (Kd.C_below HR164.out HB.out) | (with_reducible refine Kd.C_alloc ?_ _) | (with_reducible refine Kd.C_drewN ?_ _) | (with_reducible refine Kd.C_drew ?_))); (case side2 => exact HC164.out); rintro e w' ⟨rfl, ⟨nd, rfl⟩⟩; (try first | exact ⟨rfl, _, World.drewN_drewN _ _ _⟩ | exact ⟨rfl, _, Eq.trans (World.drewN_drewN _ _ _) (congrArg (World.drewN _) (Nat.add_assoc _ _ _))⟩)) | ((with_reducible refine gate_builtin (b := .append) (xs := #[.tmp 98, .tmp 99]) rfl ?_); at_builtin; refine Kd.R_append_rows k57 (w0 := w) w.heap.size rfl (.tmp 98) (.tmp 99) 36 57 (.agg #[(.string ⟨#[]⟩), (.string ⟨#[]⟩)]) 32 rfl Tryd.underlying36 info57 rfl (by decide) (by omega) u13 x13_3 y161 _ _ _ (fun k_ => some k_ ≠ (u10 : Value).ownBlock) (fun _ => False) rfl rfl ?aO ?aR (fun _ _ h => h) (fun _ h => h.elim) ?aF ?aB ?aS ?aL ?_; (case aR => repeat (first | exact (Kd.C_below HR164.out (by repeat (first | (with_reducible first | exact HB.out | apply below_alloc | apply pw_below_drewN | apply below_drew1) | exact HB.out))) | (with_reducible refine Kd.C_alloc ?_ _) | (with_reducible refine Kd.C_drewN ?_ _) | (with_reducible refine Kd.C_drew ?_))); (case aB => exact (by repeat (first | (with_reducible first | exact HB.out | apply below_alloc | apply pw_below_drewN | apply below_drew1) | exact HB.out))); (case aF => exact (fun k_ hk => Kd.fresh' (Kd.R_lt (by (with_reducible repeat (first | apply Kd.R_alloc | apply Kd.R_drewN | apply Kd.R_drew)); exact HO_10.out)) k_ hk)); (case aO => exact (by (with_reducible repeat (first | apply Kd.R_alloc | apply Kd.R_drewN | apply Kd.R_drew)); exact HO_13.out)); (case aS => exact (below_size (by repeat (first | (with_reducible first | exact HB.out | apply below_alloc | apply pw_below_drewN | apply below_drew1) | exact HB.out)))); (case aL => have := LMc39.out; omega); intro v167 w42 ho hb hg hat; rw [← Ny166.out] at ho; have n0_ := Aside0.mk (Kd.R_after (ok := (fun _ => True)) (by (with_reducible repeat (first | apply Kd.R_alloc | apply Kd.R_drewN | apply Kd.R_drew)); exact Kd.R_mono HO_10.out (fun _ hk => ⟨trivial, hk⟩)) hg hat); have n1_ := Aside0.mk (Kd.R_over' (by (with_reducible repeat (first | apply Kd.R_alloc | apply Kd.R_drewN | apply Kd.R_drew)); exact HO_14.out) (Kd.R_typed (by (with_reducible repeat (first | apply Kd.R_alloc | apply Kd.R_drewN | apply Kd.R_drew)); exact HO_13.out)) (by decide) hg); have n2_ := Aside0.mk (hb); have n3_ := Aside0.mk (ho); clear HO_10; clear HO_14; clear HB; clear HO_13; have HO_10 := n0_; have HO_14 := n1_; have HB := n2_; have HO168 := n3_; clear n0_ n1_ n2_ n3_; clear ho hb hg hat)); try go_wp2_with (first | (go_at_call 34; (with_reducible refine (sennitref21_Dull.calls k3 _ _ y161 false _ ?side1 ?side2 A35.out).mono ?_); (case side1 => repeat (first | exact (Kd.C_below HR164.out HB.out) | (with_reducible refine Kd.C_alloc ?_ _) | (with_reducible refine Kd.C_drewN ?_ _) | (with_reducible refine Kd.C_drew ?_))); (case side2 => exact HC164.out); rintro e w' ⟨rfl, ⟨nd, rfl⟩⟩; (try first | exact ⟨rfl, _, World.drewN_drewN _ _ _⟩ | exact ⟨rfl, _, Eq.trans (World.drewN_drewN _ _ _) (congrArg (World.drewN _) (Nat.add_assoc _ _ _))⟩)) | ((with_reducible refine gate_builtin (b := .append) (xs := #[.tmp 98, .tmp 99]) rfl ?_); at_builtin; refine Kd.R_append_rows k57 (w0 := w) w.heap.size rfl (.tmp 98) (.tmp 99) 36 57 (.agg #[(.string ⟨#[]⟩), (.string ⟨#[]⟩)]) 32 rfl Tryd.underlying36 info57 rfl (by decide) (by omega) u13 x13_3 y161 _ _ _ (fun k_ => some k_ ≠ (u10 : Value).ownBlock) (fun _ => False) rfl rfl ?aO ?aR (fun _ _ h => h) (fun _ h => h.elim) ?aF ?aB ?aS ?aL ?_; (case aR => repeat (first | exact (Kd.C_below HR164.out (by repeat (first | (with_reducible first | exact HB.out | apply below_alloc | apply pw_below_drewN | apply below_drew1) | exact HB.out))) | (with_reducible refine Kd.C_alloc ?_ _) | (with_reducible refine Kd.C_drewN ?_ _) | (with_reducible refine Kd.C_drew ?_))); (case aB => exact (by repeat (first | (with_reducible first | exact HB.out | apply below_alloc | apply pw_below_drewN | apply below_drew1) | exact HB.out))); (case aF => exact (fun k_ hk => Kd.fresh' (Kd.R_lt (by (with_reducible repeat (first | apply Kd.R_alloc | apply Kd.R_drewN | apply Kd.R_drew)); exact HO_10.out)) k_ hk)); (case aO => exact (by (with_reducible repeat (first | apply Kd.R_alloc | apply Kd.R_drewN | apply Kd.R_drew)); exact HO_13.out)); (case aS => exact (below_size (by repeat (first | (with_reducible first | exact HB.out | apply below_alloc | apply pw_below_drewN | apply below_drew1) | exact HB.out)))); (case aL => have := LMc39.out; omega); intro v167 w42 ho hb hg hat; rw [← Ny166.out] at ho; have n0_ := Aside0.mk (Kd.R_after (ok := (fun _ => True)) (by (with_reducible repeat (first | apply Kd.R_alloc | apply Kd.R_drewN | apply Kd.R_drew)); exact Kd.R_mono HO_10.out (fun _ hk => ⟨trivial, hk⟩)) hg hat); have n1_ := Aside0.mk (Kd.R_over' (by (with_reducible repeat (first | apply Kd.R_alloc | apply Kd.R_drewN | apply Kd.R_drew)); exact HO_14.out) (Kd.R_typed (by (with_reducible repeat (first | apply Kd.R_alloc | apply Kd.R_drewN | apply Kd.R_drew)); exact HO_13.out)) (by decide) hg); have n2_ := Aside0.mk (hb); have n3_ := Aside0.mk (ho); clear HO_10; clear HO_14; clear HB; clear HO_13; have HO_10 := n0_; have HO_14 := n1_; have HB := n2_; have HO168 := n3_; clear n0_ n1_ n2_ n3_; clear ho hb hg hat)))
                                  go_roundg k3
                                  case measure => have := HJ4.out; have := HK2.out; have := HK3.out; omega
                                  case rel => exact ⟨(y166), (wrap64 (x15_3 + 1)), (by first | rfl | (simp; done) | (simp [*]; done)), H', ⟨by have := HJ4.out; have := HK2.out; have := HK3.out; omega⟩, ⟨by (with_reducible repeat (first | apply Kd.R_alloc | apply Kd.R_drewN | apply Kd.R_drew)); exact Kd.R_mono HO_10.out (fun _ hk => hk.2)⟩, ⟨by (with_reducible repeat (first | apply Kd.R_alloc | apply Kd.R_drewN | apply Kd.R_drew)); exact HO168.out⟩, ⟨by (with_reducible repeat (first | apply Kd.R_alloc | apply Kd.R_drewN | apply Kd.R_drew)); exact HO_14.out⟩, ⟨by repeat (first | (with_reducible first | exact HB.out | apply below_alloc | apply pw_below_drewN | apply below_drew1) | exact HB.out)⟩⟩
                                · rw [if_neg c39] at H
                                  exact absurd H (by simp)
                            · replace c34 := Bool.eq_false_iff.mpr c34
                              subst c34
                              have H1 : (if x13_3.length + y161.length < 4398046511104 then (sennitlaw21_HunkCovers.l2 k3 l0 false t140 t146 x10_2 (x13_3 ++ y161) t156 (wrap64 (x15_3 + 1))) else (none)) = some r := by rw [if_neg (show ¬ (false = true) by decide)] at H; exact H
                              clear H
                              have H := H1
                              clear H1
                              by_cases c43 : x13_3.length + y161.length < 4398046511104
                              · rw [if_pos c43] at H
                                have LMc43 := Aside0.mk c43
                                clear c43
                                obtain ⟨y169, hy169⟩ : ∃ y_ : List (S57), y_ = (x13_3 ++ y161) := ⟨_, rfl⟩
                                replace H : (sennitlaw21_HunkCovers.l2 k3 l0 false t140 t146 x10_2 y169 t156 (wrap64 (x15_3 + 1))) = some r := by first | (rw [hy169]; with_reducible exact H) | (have H2_ := (Option.bind_some _ _).symm.trans H; rw [hy169]; with_reducible exact H2_) | (have H2_ := (Option.bind_some _ _).symm.trans H; with_reducible exact H2_) | with_reducible exact H | (rw [hy169]; exact H) | exact H
                                have Ny169 := Aside0.mk hy169
                                clear hy169
                                have H' := Aside0.mk H
                                clear H
                                obtain ⟨Ao44, co44, eo44⟩ := Kd.R_slice HO_14.out
                                subst eo44
                                have p159 : 0 ≤ (x15_3 : Int) := of_decide_eq_true (by first | (with_reducible assumption) | assumption)
                                have q159 : x15_3 < (t156.length : Int) := of_decide_eq_true (by first | (with_reducible assumption) | assumption)
                                obtain ⟨ad159, e159, hx159_0, hx159_1⟩ := at_T45 (Kd.R_reads' HO_14.out).2.2 x15_3 p159 q159
                                cases e159
                                replace p159 := eq_true p159
                                replace q159 := eq_true q159
                                have p160 : 0 ≤ (x15_3 : Int) := of_decide_eq_true (by first | (with_reducible assumption) | assumption)
                                have q160 : x15_3 < (t156.length : Int) := of_decide_eq_true (by first | (with_reducible assumption) | assumption)
                                obtain ⟨ad160, e160, hx160_0, hx160_1⟩ := at_T45 (Kd.R_reads' HO_14.out).2.2 x15_3 p160 q160
                                obtain rfl : ad159 = ad160 := (by injection e160)
                                replace p160 := eq_true p160
                                replace q160 := eq_true q160
                                have q45 : (((rd_T45 t156 x15_3).f1) : Int) ≤ ((l0.length : Int) : Int) := of_decide_eq_true (by first | (with_reducible assumption) | assumption)
                                obtain ⟨i045, hi045, _, hsz45, _⟩ := info_parts info57
                                have hroom45 : l0.length ≤ c0 := HC0.out
                                have hC45 : Kd.C k57 _ A0 l0.length l0 := HR0.out
                                have ql45 : (((rd_T45 t156 x15_3).f0) : Int) ≤ (((rd_T45 t156 x15_3).f1) : Int) := of_decide_eq_true (by first | (with_reducible assumption) | assumption)
                                have q045 : (0 : Int) ≤ (((rd_T45 t156 x15_3).f0) : Int) := of_decide_eq_true (by first | (with_reducible assumption) | assumption)
                                have hcut45 := cut_mid (P := Tryd.prog) 36 57 .i64 .i64 Tryd.underlying36 hi045 2 hsz45 A0 l0.length c0 ((rd_T45 t156 x15_3).f0) ((rd_T45 t156 x15_3).f1) q045 ql45 q45 hroom45
                                have hr45 := Kd.C_mid (lo := (((rd_T45 t156 x15_3).f0) : Int).toNat) (hi := (((rd_T45 t156 x15_3).f1) : Int).toNat) (c := c0) hC45 (by omega) (by omega) hroom45
                                obtain ⟨A45, hA45⟩ : ∃ Az_, Az_ = (if c0 = (((rd_T45 t156 x15_3).f0) : Int).toNat then A0 else (A0 : Option Addr).map (·.add ((((rd_T45 t156 x15_3).f0) : Int).toNat * 2))) := ⟨_, rfl⟩
                                obtain ⟨c45, hc45⟩ : ∃ c1, c1 = c0 - (((rd_T45 t156 x15_3).f0) : Int).toNat := ⟨_, rfl⟩
                                have hy45 : y161.length = (((rd_T45 t156 x15_3).f1) : Int).toNat - (((rd_T45 t156 x15_3).f0) : Int).toNat := (by rw [Ny161.out, List.length_drop, List.length_take] <;> omega)
                                rw [show ((l0).take (((rd_T45 t156 x15_3).f1) : Int).toNat).drop (((rd_T45 t156 x15_3).f0) : Int).toNat = y161 from Ny161.out.symm] at hr45
                                replace hr45 : Kd.C k57 _ A45 y161.length y161 := (by rw [hA45]; exact hr45)
                                rw [← hy45, ← hA45, ← hc45] at hcut45
                                have HR164 := Aside0.mk hr45
                                have HC164 := Aside0.mk (show y161.length ≤ c45 from by rw [hy45, hc45]; exact Nat.sub_le_sub_right (Nat.le_trans (by omega) hroom45) _)
                                clear hr45 hC45 hroom45 hi045 hsz45 hc45
                                have KY45 := Aside0.mk hy45
                                have KA45 := Aside0.mk hA45
                                clear hy45 hA45
                                replace q45 := eq_true q45
                                go_wp2_with (first | ((with_reducible refine gate_builtin (b := .append) (xs := #[.tmp 98, .tmp 99]) rfl ?_); at_builtin; refine Kd.R_append_rows k57 (w0 := w) w.heap.size rfl (.tmp 98) (.tmp 99) 36 57 (.agg #[(.string ⟨#[]⟩), (.string ⟨#[]⟩)]) 32 rfl Tryd.underlying36 info57 rfl (by decide) (by omega) u13 x13_3 y161 _ _ _ (fun k_ => some k_ ≠ (u10 : Value).ownBlock) (fun _ => False) rfl rfl ?aO ?aR (fun _ _ h => h) (fun _ h => h.elim) ?aF ?aB ?aS ?aL ?_; (case aR => repeat (first | exact (Kd.C_below HR164.out HB.out) | exact (Kd.C_drewN (Kd.C_below HR164.out HB.out) _) | (with_reducible refine Kd.C_alloc ?_ _) | (with_reducible refine Kd.C_drewN ?_ _) | (with_reducible refine Kd.C_drew ?_))); (case aB => exact (by repeat (first | (with_reducible first | exact HB.out | apply below_alloc | apply pw_below_drewN | apply below_drew1) | exact HB.out))); (case aF => exact (fun k_ hk => Kd.fresh' (Kd.R_lt (by (with_reducible repeat (first | apply Kd.R_alloc | apply Kd.R_drewN | apply Kd.R_drew)); exact HO_10.out)) k_ hk)); (case aO => exact (by (with_reducible repeat (first | apply Kd.R_alloc | apply Kd.R_drewN | apply Kd.R_drew)); exact HO_13.out)); (case aS => exact (below_size (by repeat (first | (with_reducible first | exact HB.out | apply below_alloc | apply pw_below_drewN | apply below_drew1) | exact HB.out)))); (case aL => have := LMc43.out; omega); intro v170 w46 ho hb hg hat; rw [← Ny169.out] at ho; have n0_ := Aside0.mk (Kd.R_after (ok := (fun _ => True)) (by (with_reducible repeat (first | apply Kd.R_alloc | apply Kd.R_drewN | apply Kd.R_drew)); exact Kd.R_mono HO_10.out (fun _ hk => ⟨trivial, hk⟩)) hg hat); have n1_ := Aside0.mk (Kd.R_over' (by (with_reducible repeat (first | apply Kd.R_alloc | apply Kd.R_drewN | apply Kd.R_drew)); exact HO_14.out) (Kd.R_typed (by (with_reducible repeat (first | apply Kd.R_alloc | apply Kd.R_drewN | apply Kd.R_drew)); exact HO_13.out)) (by decide) hg); have n2_ := Aside0.mk (hb); have n3_ := Aside0.mk (ho); clear HO_10; clear HO_14; clear HB; clear HO_13; have HO_10 := n0_; have HO_14 := n1_; have HB := n2_; have HO171 := n3_; clear n0_ n1_ n2_ n3_; clear ho hb hg hat))
                                repeat (go_quiet (first | ((with_reducible refine gate_builtin (b := .append) (xs := #[.tmp 98, .tmp 99]) rfl ?_); at_builtin; refine Kd.R_append_rows k57 (w0 := w) w.heap.size rfl (.tmp 98) (.tmp 99) 36 57 (.agg #[(.string ⟨#[]⟩), (.string ⟨#[]⟩)]) 32 rfl Tryd.underlying36 info57 rfl (by decide) (by omega) u13 x13_3 y161 _ _ _ (fun k_ => some k_ ≠ (u10 : Value).ownBlock) (fun _ => False) rfl rfl ?aO ?aR (fun _ _ h => h) (fun _ h => h.elim) ?aF ?aB ?aS ?aL ?_; (case aR => repeat (first | exact (Kd.C_below HR164.out HB.out) | exact (Kd.C_drewN (Kd.C_below HR164.out HB.out) _) | (with_reducible refine Kd.C_alloc ?_ _) | (with_reducible refine Kd.C_drewN ?_ _) | (with_reducible refine Kd.C_drew ?_))); (case aB => exact (by repeat (first | (with_reducible first | exact HB.out | apply below_alloc | apply pw_below_drewN | apply below_drew1) | exact HB.out))); (case aF => exact (fun k_ hk => Kd.fresh' (Kd.R_lt (by (with_reducible repeat (first | apply Kd.R_alloc | apply Kd.R_drewN | apply Kd.R_drew)); exact HO_10.out)) k_ hk)); (case aO => exact (by (with_reducible repeat (first | apply Kd.R_alloc | apply Kd.R_drewN | apply Kd.R_drew)); exact HO_13.out)); (case aS => exact (below_size (by repeat (first | (with_reducible first | exact HB.out | apply below_alloc | apply pw_below_drewN | apply below_drew1) | exact HB.out)))); (case aL => have := LMc43.out; omega); intro v170 w46 ho hb hg hat; rw [← Ny169.out] at ho; have n0_ := Aside0.mk (Kd.R_after (ok := (fun _ => True)) (by (with_reducible repeat (first | apply Kd.R_alloc | apply Kd.R_drewN | apply Kd.R_drew)); exact Kd.R_mono HO_10.out (fun _ hk => ⟨trivial, hk⟩)) hg hat); have n1_ := Aside0.mk (Kd.R_over' (by (with_reducible repeat (first | apply Kd.R_alloc | apply Kd.R_drewN | apply Kd.R_drew)); exact HO_14.out) (Kd.R_typed (by (with_reducible repeat (first | apply Kd.R_alloc | apply Kd.R_drewN | apply Kd.R_drew)); exact HO_13.out)) (by decide) hg); have n2_ := Aside0.mk (hb); have n3_ := Aside0.mk (ho); clear HO_10; clear HO_14; clear HB; clear HO_13; have HO_10 := n0_; have HO_14 := n1_; have HB := n2_; have HO171 := n3_; clear n0_ n1_ n2_ n3_; clear ho hb hg hat)); try go_wp2_with (first | ((with_reducible refine gate_builtin (b := .append) (xs := #[.tmp 98, .tmp 99]) rfl ?_); at_builtin; refine Kd.R_append_rows k57 (w0 := w) w.heap.size rfl (.tmp 98) (.tmp 99) 36 57 (.agg #[(.string ⟨#[]⟩), (.string ⟨#[]⟩)]) 32 rfl Tryd.underlying36 info57 rfl (by decide) (by omega) u13 x13_3 y161 _ _ _ (fun k_ => some k_ ≠ (u10 : Value).ownBlock) (fun _ => False) rfl rfl ?aO ?aR (fun _ _ h => h) (fun _ h => h.elim) ?aF ?aB ?aS ?aL ?_; (case aR => repeat (first | exact (Kd.C_below HR164.out HB.out) | exact (Kd.C_drewN (Kd.C_below HR164.out HB.out) _) | (with_reducible refine Kd.C_alloc ?_ _) | (with_reducible refine Kd.C_drewN ?_ _) | (with_reducible refine Kd.C_drew ?_))); (case aB => exact (by repeat (first | (with_reducible first | exact HB.out | apply below_alloc | apply pw_below_drewN | apply below_drew1) | exact HB.out))); (case aF => exact (fun k_ hk => Kd.fresh' (Kd.R_lt (by (with_reducible repeat (first | apply Kd.R_alloc | apply Kd.R_drewN | apply Kd.R_drew)); exact HO_10.out)) k_ hk)); (case aO => exact (by (with_reducible repeat (first | apply Kd.R_alloc | apply Kd.R_drewN | apply Kd.R_drew)); exact HO_13.out)); (case aS => exact (below_size (by repeat (first | (with_reducible first | exact HB.out | apply below_alloc | apply pw_below_drewN | apply below_drew1) | exact HB.out)))); (case aL => have := LMc43.out; omega); intro v170 w46 ho hb hg hat; rw [← Ny169.out] at ho; have n0_ := Aside0.mk (Kd.R_after (ok := (fun _ => True)) (by (with_reducible repeat (first | apply Kd.R_alloc | apply Kd.R_drewN | apply Kd.R_drew)); exact Kd.R_mono HO_10.out (fun _ hk => ⟨trivial, hk⟩)) hg hat); have n1_ := Aside0.mk (Kd.R_over' (by (with_reducible repeat (first | apply Kd.R_alloc | apply Kd.R_drewN | apply Kd.R_drew)); exact HO_14.out) (Kd.R_typed (by (with_reducible repeat (first | apply Kd.R_alloc | apply Kd.R_drewN | apply Kd.R_drew)); exact HO_13.out)) (by decide) hg); have n2_ := Aside0.mk (hb); have n3_ := Aside0.mk (ho); clear HO_10; clear HO_14; clear HB; clear HO_13; have HO_10 := n0_; have HO_14 := n1_; have HB := n2_; have HO171 := n3_; clear n0_ n1_ n2_ n3_; clear ho hb hg hat)))
                                go_roundg k3
                                case measure => have := HJ4.out; have := HK2.out; have := HK3.out; omega
                                case rel => exact ⟨(y169), (wrap64 (x15_3 + 1)), (by first | rfl | (simp; done) | (simp [*]; done)), H', ⟨by have := HJ4.out; have := HK2.out; have := HK3.out; omega⟩, ⟨by (with_reducible repeat (first | apply Kd.R_alloc | apply Kd.R_drewN | apply Kd.R_drew)); exact Kd.R_mono HO_10.out (fun _ hk => hk.2)⟩, ⟨by (with_reducible repeat (first | apply Kd.R_alloc | apply Kd.R_drewN | apply Kd.R_drew)); exact HO171.out⟩, ⟨by (with_reducible repeat (first | apply Kd.R_alloc | apply Kd.R_drewN | apply Kd.R_drew)); exact HO_14.out⟩, ⟨by repeat (first | (with_reducible first | exact HB.out | apply below_alloc | apply pw_below_drewN | apply below_drew1) | exact HB.out)⟩⟩
                              · rw [if_neg c43] at H
                                exact absurd H (by simp)
                          · rw [if_neg c33] at H
                            exact absurd H (by simp)
                        · rw [if_neg c32] at H
                          exact absurd H (by simp)
                      · rw [if_neg c31] at H
                        exact absurd H (by simp)
                    · rw [if_neg c30] at H
                      exact absurd H (by simp)
                  · rw [if_neg c29] at H
                    have c29b0 : decide (x15_3 < (t156.length : Int)) = false := decide_eq_false c29
                    clear c29
                    by_cases c47 : t140 = true
                    · subst c47
                      have H1 : (if t146 = 0 then ((sennitref19_Same.f k3 x10_2 x13_3).bind fun t172 => (some t172)) else (some false)) = some r := by rw [if_pos rfl] at H; exact H
                      clear H
                      have H := H1
                      clear H1
                      by_cases c48 : t146 = 0
                      · rw [if_pos c48] at H
                        have c48b0 : (t146 == 0) = true := beq_iff_eq.mpr c48
                        have c48b1 : (t146 != 0) = false := bne_eq_false_iff_eq.mpr c48
                        clear c48
                        replace H := Option.bind_eq_some_iff.mp H
                        obtain ⟨t172, A490, H⟩ := H
                        replace H : (some t172) = some r := H
                        have A49 := Aside0.mk A490
                        clear A490
                        obtain rfl := Option.some.inj H
                        obtain ⟨Ao50, co50, eo50⟩ := Kd.R_slice HO_14.out
                        subst eo50
                        obtain ⟨Ao51, co51, eo51⟩ := Kd.R_slice HO_10.out
                        subst eo51
                        obtain ⟨Ao52, co52, eo52⟩ := Kd.R_slice HO_13.out
                        subst eo52
                        go_wp2_with (first | (go_at_call 37; (with_reducible refine (sennitref19_Same.calls k3 _ _ x10_2 _ _ x13_3 t172 _ ?side1 ?side2 ?side3 ?side4 A49.out).mono ?_); (case side1 => repeat (first | exact (Kd.R_reads' HO_10.out).2.2 | (with_reducible refine Kd.C_alloc ?_ _) | (with_reducible refine Kd.C_drewN ?_ _) | (with_reducible refine Kd.C_drew ?_))); (case side2 => exact (Kd.R_reads' HO_10.out).2.1); (case side3 => repeat (first | exact (Kd.R_reads' HO_13.out).2.2 | (with_reducible refine Kd.C_alloc ?_ _) | (with_reducible refine Kd.C_drewN ?_ _) | (with_reducible refine Kd.C_drew ?_))); (case side4 => exact (Kd.R_reads' HO_13.out).2.1); rintro e w' ⟨rfl, ⟨nd, rfl⟩⟩; (try first | exact ⟨rfl, _, World.drewN_drewN _ _ _⟩ | exact ⟨rfl, _, Eq.trans (World.drewN_drewN _ _ _) (congrArg (World.drewN _) (Nat.add_assoc _ _ _))⟩)))
                        repeat (go_quiet (first | (go_at_call 37; (with_reducible refine (sennitref19_Same.calls k3 _ _ x10_2 _ _ x13_3 t172 _ ?side1 ?side2 ?side3 ?side4 A49.out).mono ?_); (case side1 => repeat (first | exact (Kd.R_reads' HO_10.out).2.2 | (with_reducible refine Kd.C_alloc ?_ _) | (with_reducible refine Kd.C_drewN ?_ _) | (with_reducible refine Kd.C_drew ?_))); (case side2 => exact (Kd.R_reads' HO_10.out).2.1); (case side3 => repeat (first | exact (Kd.R_reads' HO_13.out).2.2 | (with_reducible refine Kd.C_alloc ?_ _) | (with_reducible refine Kd.C_drewN ?_ _) | (with_reducible refine Kd.C_drew ?_))); (case side4 => exact (Kd.R_reads' HO_13.out).2.1); rintro e w' ⟨rfl, ⟨nd, rfl⟩⟩; (try first | exact ⟨rfl, _, World.drewN_drewN _ _ _⟩ | exact ⟨rfl, _, Eq.trans (World.drewN_drewN _ _ _) (congrArg (World.drewN _) (Nat.add_assoc _ _ _))⟩))); try go_wp2_with (first | (go_at_call 37; (with_reducible refine (sennitref19_Same.calls k3 _ _ x10_2 _ _ x13_3 t172 _ ?side1 ?side2 ?side3 ?side4 A49.out).mono ?_); (case side1 => repeat (first | exact (Kd.R_reads' HO_10.out).2.2 | (with_reducible refine Kd.C_alloc ?_ _) | (with_reducible refine Kd.C_drewN ?_ _) | (with_reducible refine Kd.C_drew ?_))); (case side2 => exact (Kd.R_reads' HO_10.out).2.1); (case side3 => repeat (first | exact (Kd.R_reads' HO_13.out).2.2 | (with_reducible refine Kd.C_alloc ?_ _) | (with_reducible refine Kd.C_drewN ?_ _) | (with_reducible refine Kd.C_drew ?_))); (case side4 => exact (Kd.R_reads' HO_13.out).2.1); rintro e w' ⟨rfl, ⟨nd, rfl⟩⟩; (try first | exact ⟨rfl, _, World.drewN_drewN _ _ _⟩ | exact ⟨rfl, _, Eq.trans (World.drewN_drewN _ _ _) (congrArg (World.drewN _) (Nat.add_assoc _ _ _))⟩))))
                        go_ret
                        exact ⟨by first | rfl | (simp [errW_none, errW_some] <;> rfl) | (simp [*, errW_none, errW_some] <;> rfl), by repeat (first | (with_reducible first | exact HB.out | apply below_alloc | apply pw_below_drewN | apply below_drew1) | exact HB.out)⟩
                      · rw [if_neg c48] at H
                        have c48b0 : (t146 == 0) = false := beq_eq_false_iff_ne.mpr c48
                        have c48b1 : (t146 != 0) = true := bne_iff_ne.mpr c48
                        obtain rfl := Option.some.inj H
                        obtain ⟨Ao53, co53, eo53⟩ := Kd.R_slice HO_14.out
                        subst eo53
                        go_wp2
                        repeat (go_quiet (fail); try go_wp2)
                        go_ret
                        exact ⟨by first | rfl | (simp [errW_none, errW_some] <;> rfl) | (simp [*, errW_none, errW_some] <;> rfl), by repeat (first | (with_reducible first | exact HB.out | apply below_alloc | apply pw_below_drewN | apply below_drew1) | exact HB.out)⟩
                    · replace c47 := Bool.eq_false_iff.mpr c47
                      subst c47
                      have H1 : (some false) = some r := by rw [if_neg (show ¬ (false = true) by decide)] at H; exact H
                      clear H
                      have H := H1
                      clear H1
                      obtain rfl := Option.some.inj H
                      obtain ⟨Ao54, co54, eo54⟩ := Kd.R_slice HO_14.out
                      subst eo54
                      go_wp2
                      repeat (go_quiet (fail); try go_wp2)
                      go_ret
                      exact ⟨by first | rfl | (simp [errW_none, errW_some] <;> rfl) | (simp [*, errW_none, errW_some] <;> rfl), by repeat (first | (with_reducible first | exact HB.out | apply below_alloc | apply pw_below_drewN | apply below_drew1) | exact HB.out)⟩

end Go.Proofs.YthcnfflhejogfaaDoor.X
-- part XHr6
namespace Go.Proofs.YthcnfflhejogfaaDoor.X
open Go.RowKit Go.Proofs.YthcnfflhejogfaaDoorW.PrintWords Go.Proofs.YthcnfflhejogfaaDoorW.PrintLast Go.Proofs.YthcnfflhejogfaaDoorW.PrintMore
set_option linter.unusedVariables false
set_option linter.unusedSimpArgs false
abbrev ApiRow := S57
theorem apiRow_ext {x y : ApiRow} (h0 : x.f0 = y.f0) (h1 : x.f1 = y.f1) : x = y := by
  cases x; cases y; cases h0; cases h1; rfl
instance apiRowDec : DecidableEq ApiRow := fun x y => decidable_of_iff (x.f0 = y.f0 ∧ x.f1 = y.f1) ⟨fun h => apiRow_ext h.1 h.2, fun h => by rw [h]; exact ⟨rfl, rfl⟩⟩
section
variable {R : List ApiRow}
end
theorem ref_Same19 (a b : List ApiRow) (hm : a.length ≤ 1000000) : Gives (fun k => sennitref19_Same.f k a b) (decide (a = b)) := by
  have hl : a.length = b.length → ∀ (r i : Nat), i + r = a.length → Gives (fun k => sennitref19_Same.l0 k a b (i : Int)) (decide (a.drop i = b.drop i)) := by
    intro hab r
    induction r with
    | zero =>
      intro i hi
      refine Gives.of fun k => ?_
      show sennitref19_Same.l0 (k + 1) a b (i : Int) = _
      rw [sennitref19_Same.l0, if_neg (by omega), List.drop_of_length_le (by omega), List.drop_of_length_le (by omega)]
      simp
    | succ r ih =>
      intro i hi
      have ea : rd_T57 a (i : Int) = a[i] := getN (by omega)
      have eb : rd_T57 b (i : Int) = b[i] := getN (by omega)
      have ha := dropCons (l := a) (i := i) (by omega)
      have hb := dropCons (l := b) (i := i) (by omega)
      have eq : (!((a[i].f0.toList == b[i].f0.toList)) || (!((a[i].f1.toList == b[i].f1.toList)))) = !decide (a[i] = b[i]) := by
        rw [strBeq, strBeq]
        by_cases e1 : a[i].f0 = b[i].f0
        · by_cases e2 : a[i].f1 = b[i].f1
          · have : a[i] = b[i] := apiRow_ext e1 e2
            rw [decide_eq_true e1, decide_eq_true e2, decide_eq_true this]; rfl
          · have : ¬ a[i] = b[i] := fun e => e2 (by rw [e])
            rw [decide_eq_true e1, decide_eq_false e2, decide_eq_false this]; rfl
        · have : ¬ a[i] = b[i] := fun e => e1 (by rw [e])
          rw [decide_eq_false e1, decide_eq_false this]; rfl
      by_cases e : a[i] = b[i]
      · refine ((ih (i + 1) (by omega)).eq ?_).step fun k => ?_
        · simp only [ha, hb, e, List.cons.injEq, true_and]
        · show sennitref19_Same.l0 (k + 1) a b (i : Int) = _
          rw [sennitref19_Same.l0, if_pos (by omega), if_pos (by omega), if_pos (by omega), ea, eb, eq, decide_eq_true e, if_neg (by decide), gw1 (by omega)]
      · refine Gives.of fun k => ?_
        show sennitref19_Same.l0 (k + 1) a b (i : Int) = _
        rw [sennitref19_Same.l0, if_pos (by omega), if_pos (by omega), if_pos (by omega), ea, eb, eq, decide_eq_false e, if_pos (by decide)]
        simp only [ha, hb, e, List.cons.injEq, false_and, decide_false]
  by_cases h : a.length = b.length
  · refine (hl h a.length 0 (by omega)).same fun k => ?_
    show sennitref19_Same.f k a b = _
    rw [sennitref19_Same.f, if_pos (by omega)]; rfl
  · refine Gives.pure fun k => ?_
    show sennitref19_Same.f k a b = _
    have : ¬ a = b := fun e => h (by rw [e])
    rw [sennitref19_Same.f, if_neg (by omega), decide_eq_false this]
end Go.Proofs.YthcnfflhejogfaaDoor.X
-- part XHr7
namespace Go.Proofs.YthcnfflhejogfaaDoor.X
open Go.RowKit Go.Proofs.YthcnfflhejogfaaDoorW.PrintWords Go.Proofs.YthcnfflhejogfaaDoorW.PrintLast Go.Proofs.YthcnfflhejogfaaDoorW.PrintMore
set_option linter.unusedVariables false
set_option linter.unusedSimpArgs false
/-- Few rows, and short ones. -/
def FewR (rows : List RowH) : Prop := rows.length ≤ 40 ∧ ∀ x ∈ rows, x.f0.size ≤ 20 ∧ x.f1.size ≤ 100
def fewRB (rows : List RowH) : Bool := decide (rows.length ≤ 40) && rows.all (fun x => decide (x.f0.size ≤ 20) && decide (x.f1.size ≤ 100))
theorem fewRB_iff {rows : List RowH} (h : fewRB rows = true) : FewR rows := by
  rw [fewRB, Bool.and_eq_true, decide_eq_true_eq, List.all_eq_true] at h
  refine ⟨h.1, fun x hx => ?_⟩
  have := h.2 x hx; rw [Bool.and_eq_true, decide_eq_true_eq, decide_eq_true_eq] at this; exact this
theorem FewR.low {rows : List RowH} (h : FewR rows) : lowB rows = true := lowB_mk (by have := h.1; omega) (fun x hx => by have := h.2 x hx; omega) (fun x hx => by have := h.2 x hx; omega)
theorem ref_FewH_l0 (rows : List RowH) : ∀ (r i k : Nat), i + r = 41 → 2 * r + 2 ≤ k → sennitref21_Few.l0 k rows (i : Int) = some (decide (rows.length ≤ 40) && (rows.drop i).all (fun x => decide (x.f0.size ≤ 20) && decide (x.f1.size ≤ 100)))
  | 0, i, k + 2, hi, hk => by
    rw [sennitref21_Few.l0]
    by_cases h : (i : Int) < rows.length
    · rw [if_pos h, decide_eq_false (show ¬ ((i : Int) < 41) by omega), sennitref21_Few.j1, if_neg (by decide), decide_eq_false (show ¬ ((rows.length : Int) ≤ 40) by omega), decide_eq_false (show ¬ rows.length ≤ 40 by omega)]; rfl
    · rw [if_neg h, sennitref21_Few.j1, if_neg (by decide), List.drop_of_length_le (by omega), List.all_nil, Bool.and_true]
      congr 1
      rw [decide_eq_decide]; omega
  | r + 1, i, k + 2, hi, hk => by
    rw [sennitref21_Few.l0]
    by_cases h : (i : Int) < rows.length
    · have hil : i < rows.length := by omega
      rw [if_pos h, decide_eq_true (show ((i : Int) < 41) by omega), sennitref21_Few.j1, if_pos rfl, if_pos (by omega), if_pos h, rdH hil, dropCons hil, List.all_cons]
      by_cases h2 : 20 < rows[i].f0.size
      · rw [if_pos (by omega), decide_eq_false (show ¬ rows[i].f0.size ≤ 20 by omega)]; simp
      · by_cases h3 : 100 < rows[i].f1.size
        · rw [if_neg (by omega), if_pos (by omega), decide_eq_false (show ¬ rows[i].f1.size ≤ 100 by omega)]; simp
        · rw [if_neg (by omega), if_neg (by omega), gw1 (by omega), ref_FewH_l0 rows r (i + 1) k (by omega) (by omega), decide_eq_true (show rows[i].f0.size ≤ 20 by omega), decide_eq_true (show rows[i].f1.size ≤ 100 by omega)]; rfl
    · rw [if_neg h, sennitref21_Few.j1, if_neg (by decide), List.drop_of_length_le (by omega), List.all_nil, Bool.and_true]
      congr 1
      rw [decide_eq_decide]; omega
theorem ref_FewH (rows : List RowH) : Gives (fun k => sennitref21_Few.f k rows) (fewRB rows) := ⟨84, fun k hk => by
  show sennitref21_Few.l0 k rows ((0 : Nat) : Int) = _
  rw [ref_FewH_l0 rows 41 0 k (by omega) (by omega)]; rfl⟩
theorem cutsH_len (rows : List RowH) (sh : List Bool) : (cutsH rows sh).length ≤ sh.length + 1 := by
  have := cutsGo_len rows sh (sh.length + 1) 0
  exact this
end Go.Proofs.YthcnfflhejogfaaDoor.X
-- part XHwC
namespace Go.Proofs.YthcnfflhejogfaaDoor.X
open Go.RowKit Go.Proofs.YthcnfflhejogfaaDoorW.PrintWords Go.Proofs.YthcnfflhejogfaaDoorW.PrintLast Go.Proofs.YthcnfflhejogfaaDoorW.PrintMore
set_option linter.unusedVariables false
set_option linter.unusedSimpArgs false
theorem rd0_cov {rows : List RowH} {n : Nat} (h : ∀ x ∈ rows, x.f0.size ≤ n) : (rd_T57 rows 0).f0.size ≤ n := by
  cases rows with
  | nil => exact Nat.zero_le _
  | cons x l => exact h x List.mem_cons_self
/-- All hunks' rows with marks are the rows of the groups that are kept. -/
theorem covers (rows : List RowH) (x : Nat) (dense : Bool) :
    (cutsH rows (shownC rows x dense)).flatMap (fun h => h.f2.filter mrkB) = (HkP.groupsGo mrkB rows (rows.length + 1) 0).flatMap (fun p => if keepB rows dense p.1 p.2 = true then cutR rows p.1 p.2 else []) ∧ ((cutsH rows (shownC rows x dense)).flatMap (fun h => h.f2.filter mrkB)).length ≤ rows.length := by
  obtain ⟨sh, hsh⟩ : ∃ sh, shownC rows x dense = sh := ⟨_, rfl⟩
  have hsl : sh.length = rows.length := by rw [← hsh, shownC_len]
  have e1 : (cutsH rows sh).flatMap (fun h => h.f2.filter mrkB) = HkP.pick rows (fun j => HkP.mk id sh j && HkP.mk mrkB rows j) 0 rows.length := by
    rw [← hsl, ← HkP.runs_pick rows id sh (HkP.mk mrkB rows) (sh.length + 1) 0 (by omega) (by omega), cutsH, List.flatMap_map]
    refine HkP.flatMap_eq fun p hp => ?_
    have hg := ((HkP.mem_groupsGo id _ 0 (by omega) (fun j hj => by omega)).1 (show (p.1, p.2) ∈ _ from hp)).2
    exact HkP.pick_cut rows mrkB (p.2 - p.1) p.1 p.2 (by have := hg.1; omega) (by have := hg.2.1; omega)
  have e2 : (HkP.groupsGo mrkB rows (rows.length + 1) 0).flatMap (fun p => if keepB rows dense p.1 p.2 = true then cutR rows p.1 p.2 else []) = HkP.pick rows (fun j => HkP.mk mrkB rows j && HkP.keptR mrkB (keepB rows dense) rows j) 0 rows.length := by
    rw [← HkP.runs_pick rows mrkB rows (HkP.keptR mrkB (keepB rows dense) rows) (rows.length + 1) 0 (by omega) (by omega)]
    refine HkP.flatMap_eq fun p hp => ?_
    have hg := ((HkP.mem_groupsGo mrkB _ 0 (by omega) (fun j hj => by omega)).1 (show (p.1, p.2) ∈ _ from hp)).2
    have hk : ∀ j, p.1 ≤ j → j < p.2 → HkP.keptR mrkB (keepB rows dense) rows j = keepB rows dense p.1 p.2 := fun j h1 h2 => by
      have hm := hg.2.2.1 j h1 h2
      obtain ⟨a, b, c⟩ := HkP.isGroup_at mrkB hm
      obtain ⟨e1, e2⟩ := HkP.IsGroup.uniq mrkB hg a h1 h2 b c
      rw [HkP.keptR, (HkP.mk_iff mrkB).2 hm, Bool.true_and, ← e1, ← e2]
    rw [HkP.pick_congr rows hk]
    cases hkb : keepB rows dense p.1 p.2 with
    | true =>
      rw [if_pos rfl]
      exact HkP.pick_all rows (by have := hg.1; omega) hg.2.1
    | false =>
      rw [if_neg (by decide), HkP.pick]
      refine (List.filterMap_eq_nil_iff.2 fun i _ => ?_).symm
      rw [if_neg (by decide)]
  rw [hsh, e1, e2]
  refine ⟨HkP.pick_congr rows fun j _ hj => ?_, by have := HkP.pick_len rows (fun j => HkP.mk id sh j && HkP.mk mrkB rows j) 0 rows.length; omega⟩
  have hs : HkP.mk id sh j = HkP.shownR mrkB (keepB rows dense) rows x j := by
    rw [HkP.mk_at _ (by omega), ← shownC_at (x := x) (dense := dense) hj, List.getD_eq_getElem?_getD]
    simp only [hsh]
    rw [List.getElem?_eq_getElem (by omega)]; rfl
  rw [hs, HkP.shownR]
  cases HkP.mk mrkB rows j with
  | true => rw [if_pos rfl, Bool.and_true, Bool.true_and]
  | false => rw [Bool.and_false, Bool.false_and]
section
variable {rows : List RowH} {dense : Bool} {V : Bool}
theorem cov_l1 (hz : Low rows) {H : List Hunk48} {e : Int} (hH : ∀ h ∈ H, ∀ y ∈ h.f2, y.f0.size ≤ 1000000) (hHl : H.length ≤ 1000000) (hHr : ∀ h ∈ H, h.f2.length ≤ 1000000) {i : Nat} (hi : i < H.length) : ∀ (r j : Nat) (out : List RowH), j + r = H[i].f2.length → (out ++ (H[i].f2.drop j).filter mrkB).length ≤ 1000000 → Gives (fun k => sennitlaw21_HunkCovers.l0 k rows dense true H e (out ++ (H[i].f2.drop j).filter mrkB) ((i + 1 : Nat) : Int)) V → Gives (fun k => sennitlaw21_HunkCovers.l1 k rows dense true H e out (i : Int) (j : Int)) V := by
  intro r
  have hrd : rd_T48 H (i : Int) = H[i] := getN hi
  have hlr := hHr _ (List.getElem_mem hi)
  induction r with
  | zero =>
    intro j out hj hb hg
    rw [List.drop_of_length_le (by omega), List.filter_nil, List.append_nil] at hg
    refine hg.step fun k => ?_
    show sennitlaw21_HunkCovers.l1 (k + 1) rows dense true H e out (i : Int) (j : Int) = _
    rw [sennitlaw21_HunkCovers.l1, if_pos (by omega), if_pos (by omega), hrd, if_neg (by omega), gw1 (by omega)]
  | succ r ih =>
    intro j out hj hb hg
    have hjl : j < H[i].f2.length := by omega
    have hm := ref_Marked H[i].f2[j].f0 H[i].f2[j].f1 (hH _ (List.getElem_mem hi) _ (List.getElem_mem hjl))
    rw [dropCons hjl, List.filter_cons] at hg hb
    have hrj : rd_T57 H[i].f2 (j : Int) = H[i].f2[j] := rdH hjl
    cases e1 : mrkB H[i].f2[j] with
    | true =>
      rw [show H[i].f2[j].f0.data.toList.any (· != 32) = true from e1] at hm
      rw [if_pos e1] at hg hb
      have hol : out.length ≤ 1000000 := by rw [List.length_append] at hb; omega
      refine Gives.call hm (ih (j + 1) (out ++ [H[i].f2[j]]) (by omega) (by rw [List.append_assoc]; exact hb) (by rw [List.append_assoc]; exact hg)) fun k hk => ?_
      show sennitlaw21_HunkCovers.l1 (k + 1) rows dense true H e out (i : Int) (j : Int) = _
      rw [sennitlaw21_HunkCovers.l1, if_pos (by omega), if_pos (by omega), hrd, if_pos (by omega), if_pos (by omega), hrj, hk, Option.bind_some, if_pos rfl, if_pos (by omega), gw1 (by omega)]
    | false =>
      rw [show H[i].f2[j].f0.data.toList.any (· != 32) = false from e1] at hm
      rw [if_neg (by rw [e1]; decide)] at hg hb
      refine Gives.call hm (ih (j + 1) out (by omega) hb hg) fun k hk => ?_
      show sennitlaw21_HunkCovers.l1 (k + 1) rows dense true H e out (i : Int) (j : Int) = _
      rw [sennitlaw21_HunkCovers.l1, if_pos (by omega), if_pos (by omega), hrd, if_pos (by omega), if_pos (by omega), hrj, hk, Option.bind_some, if_neg (by decide), gw1 (by omega)]
theorem cov_l0 (hz : Low rows) {H : List Hunk48} {e : Int} {G : List (S45)} (hG : Gives (fun k => sennitref21_Groups.f k rows) G) (hH : ∀ h ∈ H, ∀ y ∈ h.f2, y.f0.size ≤ 1000000) (hHl : H.length ≤ 1000000) (hHr : ∀ h ∈ H, h.f2.length ≤ 1000000) : ∀ (r i : Nat) (out : List RowH), i + r = H.length → (out ++ (H.drop i).flatMap (fun h => h.f2.filter mrkB)).length ≤ 1000000 → Gives (fun k => sennitlaw21_HunkCovers.l2 k rows dense true e (out ++ (H.drop i).flatMap (fun h => h.f2.filter mrkB)) [] G 0) V → Gives (fun k => sennitlaw21_HunkCovers.l0 k rows dense true H e out (i : Int)) V := by
  intro r
  induction r with
  | zero =>
    intro i out hi hb hg
    rw [List.drop_of_length_le (by omega), List.flatMap_nil, List.append_nil] at hg
    refine Gives.call hG hg fun k hk => ?_
    show sennitlaw21_HunkCovers.l0 (k + 1) rows dense true H e out (i : Int) = _
    rw [sennitlaw21_HunkCovers.l0, if_neg (by omega), hk, Option.bind_some]
  | succ r ih =>
    intro i out hi hb hg
    have hil : i < H.length := by omega
    rw [dropCons hil, List.flatMap_cons, ← List.append_assoc] at hg hb
    have h1 := cov_l1 (dense := dense) (V := V) hz (e := e) hH hHl hHr hil H[i].f2.length 0 out (by omega) (by rw [List.drop_zero]; rw [List.length_append] at hb; omega) (by rw [List.drop_zero]; exact ih (i + 1) _ (by omega) hb hg)
    refine h1.step fun k => ?_
    show sennitlaw21_HunkCovers.l0 (k + 1) rows dense true H e out (i : Int) = _
    rw [sennitlaw21_HunkCovers.l0, if_pos (by omega)]; rfl
theorem cov_l2 {n : Nat} (hgd : GoodR n rows) (hn : n ≤ 1000000) (hl : rows.length ≤ 1000000) {e : Int} {all : List RowH} {gs : List (Nat × Nat)} (hgs : ∀ g ∈ gs, g.1 ≤ g.2 ∧ g.2 ≤ rows.length) (hgl : gs.length ≤ 1000000) : ∀ (r i : Nat) (out : List RowH), i + r = gs.length → (out ++ (gs.drop i).flatMap (fun p => if keepB rows dense p.1 p.2 = true then cutR rows p.1 p.2 else [])).length ≤ 1000000 → Gives (fun k => sennitref19_Same.f k all (out ++ (gs.drop i).flatMap (fun p => if keepB rows dense p.1 p.2 = true then cutR rows p.1 p.2 else []))) true → e = 0 → Gives (fun k => sennitlaw21_HunkCovers.l2 k rows dense true e all out (gs.map spanN) (i : Int)) true := by
  intro r
  induction r with
  | zero =>
    intro i out hi hb hg he
    rw [List.drop_of_length_le (by omega), List.flatMap_nil, List.append_nil] at hg
    refine Gives.last hg fun k hk => ?_
    show sennitlaw21_HunkCovers.l2 (k + 1) rows dense true e all out (gs.map spanN) (i : Int) = _
    rw [sennitlaw21_HunkCovers.l2, if_neg (by rw [List.length_map]; omega), if_pos rfl, if_pos he, hk, Option.bind_some]
  | succ r ih =>
    intro i out hi hb hg he
    have hil : i < gs.length := by omega
    have hrd : rd_T45 (gs.map spanN) (i : Int) = spanN gs[i] := by
      have : rd_T45 (gs.map spanN) (i : Int) = (gs.map spanN)[i]'(by rw [List.length_map]; exact hil) := getN (by rw [List.length_map]; exact hil)
      rw [this, List.getElem_map]
    obtain ⟨h1, h2⟩ := hgs _ (List.getElem_mem hil)
    rw [dropCons hil, List.flatMap_cons, ← List.append_assoc] at hg hb
    obtain ⟨f, hf⟩ : ∃ f, gs[i].1 = f := ⟨_, rfl⟩
    obtain ⟨t, ht⟩ : ∃ t, gs[i].2 = t := ⟨_, rfl⟩
    have hs : spanN gs[i] = ⟨(f : Int), (t : Int)⟩ := by rw [spanN, hf, ht]
    rw [hf, ht] at h1 hg hb
    rw [ht] at h2
    have e0 : ∀ k, sennitlaw21_HunkCovers.l2 (k + 1) rows dense true e all out (gs.map spanN) (i : Int) = if dense = true then ((sennitref21_Dull.f k (cutR rows f t)).bind fun t165 => (if t165 = true then (sennitlaw21_HunkCovers.l2 k rows dense true e all out (gs.map spanN) ((i + 1 : Nat) : Int)) else (if out.length + (cutR rows f t).length < 4398046511104 then (sennitlaw21_HunkCovers.l2 k rows dense true e all (out ++ cutR rows f t) (gs.map spanN) ((i + 1 : Nat) : Int)) else (none)))) else (if out.length + (cutR rows f t).length < 4398046511104 then (sennitlaw21_HunkCovers.l2 k rows dense true e all (out ++ cutR rows f t) (gs.map spanN) ((i + 1 : Nat) : Int)) else (none)) := fun k => by
      rw [sennitlaw21_HunkCovers.l2, if_pos (by rw [List.length_map]; omega), if_pos (by omega), hrd, hs]
      dsimp only
      rw [if_pos (by omega), if_pos (by omega), if_pos (by omega), Int.toNat_natCast, Int.toNat_natCast, gw1 (by omega), Option.bind_some]; rfl
    have hcl : (cutR rows f t).length ≤ rows.length := by rw [cutR_len h2]; omega
    have hol : out.length ≤ 1000000 := by rw [List.length_append, List.length_append] at hb; omega
    cases dense with
    | false =>
      have hk : keepB rows false f t = true := rfl
      rw [if_pos hk] at hg hb
      refine (ih (i + 1) (out ++ cutR rows f t) (by omega) hb hg he).step fun k => ?_
      show sennitlaw21_HunkCovers.l2 (k + 1) rows false true e all out (gs.map spanN) (i : Int) = _
      rw [e0, if_neg (by decide), if_pos (by omega)]
    | true =>
      have hd := ref_Dull (hgd.cut f t) hn (by omega)
      rw [← dull_eq (hgd.cut f t)] at hd
      cases hdl : dullB (cutR rows f t) with
      | true =>
        rw [hdl] at hd
        have hk : keepB rows true f t = false := by rw [keepB, hdl]; rfl
        rw [if_neg (by rw [hk]; decide), List.append_nil] at hg hb
        refine Gives.call hd (ih (i + 1) out (by omega) hb hg he) fun k hk => ?_
        show sennitlaw21_HunkCovers.l2 (k + 1) rows true true e all out (gs.map spanN) (i : Int) = _
        rw [e0, if_pos rfl, hk, Option.bind_some, if_pos rfl]
      | false =>
        rw [hdl] at hd
        have hk : keepB rows true f t = true := by rw [keepB, hdl]; rfl
        rw [if_pos hk] at hg hb
        refine Gives.call hd (ih (i + 1) (out ++ cutR rows f t) (by omega) hb hg he) fun k hk => ?_
        show sennitlaw21_HunkCovers.l2 (k + 1) rows true true e all out (gs.map spanN) (i : Int) = _
        rw [e0, if_pos rfl, hk, Option.bind_some, if_neg (by decide), if_pos (by omega)]
end
theorem covers21 (rows : List RowH) (x : Nat) (hx : x ≤ 255) (dense : Bool) : Gives (fun k => sennitlaw21_HunkCovers.f k rows (x : Int) dense) true := by
  obtain ⟨K0, k0⟩ := sennitlaw21_awake.gives
  obtain ⟨K1, k1⟩ := ref_FewH rows
  dsimp only at k1
  have hj : Gives (fun k => sennitlaw21_HunkCovers.j0 k rows (x : Int) dense true true) true := Gives.of fun k => by
    show sennitlaw21_HunkCovers.j0 (k + 1) rows (x : Int) dense true true = _
    rw [sennitlaw21_HunkCovers.j0, if_pos rfl]
  obtain ⟨J, j1⟩ := hj
  dsimp only at j1
  cases hf : fewRB rows with
  | false =>
    rw [hf] at k1
    refine ⟨K0 + K1 + J, fun k hk => ?_⟩
    show sennitlaw21_HunkCovers.f k rows (x : Int) dense = _
    rw [sennitlaw21_HunkCovers.f, k0 k (by omega), Option.bind_some, k1 k (by omega), Option.bind_some, if_neg (by decide)]
    exact j1 k (by omega)
  | true =>
    rw [hf] at k1
    have hF := fewRB_iff hf
    obtain ⟨hl, hz, ht⟩ := lowB_iff hF.low
    obtain ⟨K2, k2⟩ := ref_MayH hz ht hl
    dsimp only at k2
    cases hm : mayB rows with
    | false =>
      rw [hm] at k2
      refine ⟨K0 + K1 + K2 + J, fun k hk => ?_⟩
      show sennitlaw21_HunkCovers.f k rows (x : Int) dense = _
      rw [sennitlaw21_HunkCovers.f, k0 k (by omega), Option.bind_some, k1 k (by omega), Option.bind_some, if_pos rfl, k2 k (by omega), Option.bind_some]
      exact j1 k (by omega)
    | true =>
      rw [hm] at k2
      have hg := (mayB_good hm).1
      have hn := rd0_cov (n := 20) (fun y hy => (hF.2 y hy).1)
      have hl4 := hF.1
      have hh : hunksC rows (x : Int) dense = (cutsH rows (shownC rows x dense), 0) := by
        rw [hunksC, if_neg (by omega), if_neg (by rw [hm]; decide), Int.toNat_natCast]
      have e : hunk_Hunks.f rows (x : Int) dense = some (cutsH rows (shownC rows x dense), 0) := by rw [hunk_Hunks.f, if_pos hF.low, hh]
      obtain ⟨hc1, hc2⟩ := covers rows x dense
      have hcl := cutsH_len rows (shownC rows x dense)
      rw [shownC_len] at hcl
      have hmem : ∀ h ∈ cutsH rows (shownC rows x dense), ∃ f t, h = hunkOf rows f t ∧ t ≤ rows.length := fun h hh => by
        rw [cutsH, List.mem_map] at hh
        obtain ⟨p, hp, rfl⟩ := hh
        have := ((HkP.mem_groupsGo id _ 0 (by omega) (fun j hj => by omega)).1 (show (p.1, p.2) ∈ _ from hp)).2.2.1
        rw [shownC_len] at this
        exact ⟨p.1, p.2, rfl, this⟩
      have hgrp := ref_Groups hz hl
      have hGl : ∀ g ∈ HkP.groupsGo mrkB rows (rows.length + 1) 0, g.1 ≤ g.2 ∧ g.2 ≤ rows.length := fun g hg => by
        have := ((HkP.mem_groupsGo mrkB _ 0 (by omega) (fun j hj => by omega)).1 (show (g.1, g.2) ∈ _ from hg)).2
        exact ⟨by have := this.1; omega, this.2.1⟩
      have hgl : (HkP.groupsGo mrkB rows (rows.length + 1) 0).length ≤ 1000000 := by
        have := groupsGo_len rows (rows.length + 1) 0
        rw [groupsGo_mrk, List.length_map] at this
        omega
      obtain ⟨H, hH⟩ : ∃ H, cutsH rows (shownC rows x dense) = H := ⟨_, rfl⟩
      rw [hH] at e hc1 hc2 hcl hmem
      have hs := (ref_Same19 (H.flatMap (fun h => h.f2.filter mrkB)) (H.flatMap (fun h => h.f2.filter mrkB)) (by omega)).eq (decide_eq_true rfl)
      have h2 := cov_l2 (rows := rows) (dense := dense) hg (by omega) hl (e := 0) (all := H.flatMap (fun h => h.f2.filter mrkB)) hGl hgl _ 0 [] (Nat.zero_add _) (by rw [List.nil_append, List.drop_zero, ← hc1]; omega) (by rw [List.nil_append, List.drop_zero, ← hc1]; exact hs) rfl
      have h0 := cov_l0 (rows := rows) (dense := dense) (V := true) hz (e := 0) hgrp (H := H) (fun h hh y hy => by
        obtain ⟨f, t, rfl, _⟩ := hmem h hh
        exact hz y (cutR_mem hy)) (by omega) (fun h hh => by
        obtain ⟨f, t, rfl, ht⟩ := hmem h hh
        show (cutR rows f t).length ≤ _
        rw [cutR_len ht]; omega) H.length 0 [] (by omega) (by rw [List.nil_append, List.drop_zero]; omega) (by rw [List.nil_append, List.drop_zero]; exact h2)
      have h0 : Gives (fun k => sennitlaw21_HunkCovers.j0 k rows (x : Int) dense true false) true := h0.step fun k => by
        show sennitlaw21_HunkCovers.j0 (k + 1) rows (x : Int) dense true false = _
        rw [sennitlaw21_HunkCovers.j0, if_neg (by decide), gw (by omega) (by omega), e, Option.bind_some]; rfl
      obtain ⟨K3, k3⟩ := h0
      dsimp only at k3
      refine ⟨K0 + K1 + K2 + K3, fun k hk => ?_⟩
      show sennitlaw21_HunkCovers.f k rows (x : Int) dense = _
      rw [sennitlaw21_HunkCovers.f, k0 k (by omega), Option.bind_some, k1 k (by omega), Option.bind_some, if_pos rfl, k2 k (by omega), Option.bind_some]
      exact k3 k (by omega)
theorem law_HunkCovers (W : World) (hm : MaxAt W) (A0 : Option Addr) (c0 : Nat) (l0 : List S57) (hr0 : Kd.C k57 W A0 l0.length l0) (hc0 : l0.length ≤ c0) (g0 : l0.length * 32 ≤ 140737488351232 ∧ ∀ y ∈ l0, (((fun x : S57 => (x.f0, x.f1)) y).1.size ≤ 140737488351232) ∧ (((fun x : S57 => (x.f0, x.f1)) y).2.size ≤ 140737488351232)) (x1 : Int) (g1 : (Lit.int .u8 x1).wf = true) (x2 : Bool) (g2 : True) :
    Calls Tryd.prog 10 #[.slice A0 l0.length c0, .int .u8 x1, .bool x2] W fun e w' => e = .returned (.bool true) ∧ Below W.heap.size W w' := by
  obtain ⟨n, rfl, hn⟩ := u8N g1
  obtain ⟨k, hk⟩ := covers21 l0 n (by omega) x2
  exact sennitlaw21_HunkCovers.calls k A0 c0 l0 (n : Int) x2 true W hr0 hc0 (hk k (Nat.le_refl _)) ⟨hm⟩
end Go.Proofs.YthcnfflhejogfaaDoor.X
