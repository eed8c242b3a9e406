/-
  Parts of one proof, one behind the other: XKn1, XLn1, XHr6, XHr7, XHwT.
-/
import Derived.Test.YthcnfflhejogfaaDoorBHunkTells8
-- part XKn1
namespace Go.Proofs.YthcnfflhejogfaaDoor.X
open Go.RowKit Go.Proofs.YthcnfflhejogfaaDoorW.PrintWords Go.Proofs.YthcnfflhejogfaaDoorW.PrintLast Go.Proofs.YthcnfflhejogfaaDoorW.PrintMore
attribute [local go_sem] max2_int min2_int max_two min_two max_three min_three max_four min_four   -- for this text's walks alone
set_option linter.unusedVariables false
set_option linter.unusedSimpArgs false
def sennitlaw21_awake.f (k : Nat)  : Option (Bool) := (some (([(⟨(⟨#[32, 32]⟩ : ByteArray), (⟨#[97, 10]⟩ : ByteArray)⟩ : S57), (⟨(⟨#[43, 32]⟩ : ByteArray), (⟨#[98, 10]⟩ : ByteArray)⟩ : S57), (⟨(⟨#[32, 32]⟩ : ByteArray), (⟨#[99, 10]⟩ : ByteArray)⟩ : S57), (⟨(⟨#[32, 32]⟩ : ByteArray), (⟨#[100, 10]⟩ : ByteArray)⟩ : S57)] : List (S57)) : List (S57))).bind fun y101 => ((hunk_Hunks.f y101 1 false).bind fun bt104 => ((hunk_Hunks.f y101 1 true).bind fun bt108 => ((hunk_Hunks.f y101 (-1) false).bind fun bt112 => (if bt104.2 = 0 then (if bt108.2 = 0 then (if bt112.2 = 1 then (if (bt104.1.length : Int) = 1 then (if 0 < (bt104.1.length : Int) then (if (((rd_T48 bt104.1 0).f2).length : Int) = 3 then (if ((rd_T48 bt104.1 0).f1.f1) = 3 then (if 0 < (((rd_T48 bt104.1 0).f0).length : Int) then (if ((rd_T45 ((rd_T48 bt104.1 0).f0) 0).f1) = 2 then (if (bt108.1.length : Int) = 0 then (if 1 ≤ 2 then (if 2 ≤ (y101.length : Int) then ((hunk_Dull.f ((y101.take 2).drop 1)).bind fun t125 => (if t125 = true then ((hunk_Groups.f y101).bind fun t126 => (if (t126.length : Int) = 1 then ((hunk_May.f k y101).bind fun t129 => (some t129)) else (some false))) else (some false))) else (none)) else (none)) else (some false)) else (some false)) else (none)) else (some false)) else (some false)) else (none)) else (some false)) else (some false)) else (some false)) else (some false)))))
theorem sennitlaw21_awake.mono : ∀ k, LeO (sennitlaw21_awake.f k ) (sennitlaw21_awake.f (k + 1) ) := by
  intro  k
  unfold sennitlaw21_awake.f
  repeat' first
      | (with_reducible exact hunk_May.mono _ _)
      | (with_reducible exact LeO.refl _)
      | (with_reducible exact LeO.none _)
      | (with_reducible refine LeO.ite ?_ ?_)
      | (with_reducible refine LeO.bind ?_ (fun _ => ?_))
      | exact hunk_May.mono _ _
      | exact LeO.none _
      | refine LeO.ite ?_ ?_
      | refine LeO.bind ?_ (fun _ => ?_)
theorem sennitlaw21_awake.at100 : sennitlaw21_awake.f 100 = some true := by decide +kernel
theorem sennitlaw21_awake.up : ∀ n, sennitlaw21_awake.f (100 + n) = some true
  | 0 => sennitlaw21_awake.at100
  | n + 1 => sennitlaw21_awake.mono (100 + n) _ (sennitlaw21_awake.up n)
theorem sennitlaw21_awake.true_ {k : Nat} {r : Bool} (h : sennitlaw21_awake.f k  = some r) : r = true := by
  have e : ∀ n, sennitlaw21_awake.f (k + n) = some r := fun n => by
    induction n with
    | zero => exact h
    | succ n ih => exact sennitlaw21_awake.mono (k + n) _ ih
  have h1 := e 100
  rw [Nat.add_comm, sennitlaw21_awake.up k] at h1
  exact (Option.some.inj h1).symm
theorem sennitlaw21_awake.gives : ∃ K, ∀ k, K ≤ k → sennitlaw21_awake.f k = some true := ⟨100, fun k hk => by
  obtain ⟨n, rfl⟩ : ∃ n, k = 100 + n := ⟨k - 100, by omega⟩
  exact sennitlaw21_awake.up n⟩
set_option maxHeartbeats 8000000 in
set_option maxRecDepth 100000 in
theorem sennitlaw21_awake.calls (k : Nat)  (r : Bool) (w : World) (h : sennitlaw21_awake.f k  = some r) (HMX : Aside0 (MaxAt w) := by exact ⟨MaxAt.go HMX (by repeat (first | (with_reducible first | exact HB.out | apply below_alloc | apply pw_below_drewN | apply below_drew1) | exact HB.out))⟩) :
    Calls Tryd.prog 26 #[] w fun e w' => e = .returned (.bool r) ∧ Below w.heap.size w w' := by
  have hrt_ : r = true := sennitlaw21_awake.true_ h
  have hu57 := Tryd.underlying57
  have HB := Aside0.mk (Below.refl w.heap.size w)
  have H : ((some (([(⟨(⟨#[32, 32]⟩ : ByteArray), (⟨#[97, 10]⟩ : ByteArray)⟩ : S57), (⟨(⟨#[43, 32]⟩ : ByteArray), (⟨#[98, 10]⟩ : ByteArray)⟩ : S57), (⟨(⟨#[32, 32]⟩ : ByteArray), (⟨#[99, 10]⟩ : ByteArray)⟩ : S57), (⟨(⟨#[32, 32]⟩ : ByteArray), (⟨#[100, 10]⟩ : ByteArray)⟩ : S57)] : List (S57)) : List (S57))).bind fun y101 => ((hunk_Hunks.f y101 1 false).bind fun bt104 => ((hunk_Hunks.f y101 1 true).bind fun bt108 => ((hunk_Hunks.f y101 (-1) false).bind fun bt112 => (if bt104.2 = 0 then (if bt108.2 = 0 then (if bt112.2 = 1 then (if (bt104.1.length : Int) = 1 then (if 0 < (bt104.1.length : Int) then (if (((rd_T48 bt104.1 0).f2).length : Int) = 3 then (if ((rd_T48 bt104.1 0).f1.f1) = 3 then (if 0 < (((rd_T48 bt104.1 0).f0).length : Int) then (if ((rd_T45 ((rd_T48 bt104.1 0).f0) 0).f1) = 2 then (if (bt108.1.length : Int) = 0 then (if 1 ≤ 2 then (if 2 ≤ (y101.length : Int) then ((hunk_Dull.f ((y101.take 2).drop 1)).bind fun t125 => (if t125 = true then ((hunk_Groups.f y101).bind fun t126 => (if (t126.length : Int) = 1 then ((hunk_May.f k y101).bind fun t129 => (some t129)) else (some false))) else (some false))) else (none)) else (none)) else (some false)) else (some false)) else (none)) else (some false)) else (some false)) else (none)) else (some false)) else (some false)) else (some false)) else (some false)))))) = some r := h
  clear h
  obtain ⟨y101, hy101⟩ : ∃ y_ : List (S57), y_ = (([(⟨(⟨#[32, 32]⟩ : ByteArray), (⟨#[97, 10]⟩ : ByteArray)⟩ : S57), (⟨(⟨#[43, 32]⟩ : ByteArray), (⟨#[98, 10]⟩ : ByteArray)⟩ : S57), (⟨(⟨#[32, 32]⟩ : ByteArray), (⟨#[99, 10]⟩ : ByteArray)⟩ : S57), (⟨(⟨#[32, 32]⟩ : ByteArray), (⟨#[100, 10]⟩ : ByteArray)⟩ : S57)] : List (S57))) := ⟨_, rfl⟩
  replace H : ((hunk_Hunks.f y101 1 false).bind fun bt104 => ((hunk_Hunks.f y101 1 true).bind fun bt108 => ((hunk_Hunks.f y101 (-1) false).bind fun bt112 => (if bt104.2 = 0 then (if bt108.2 = 0 then (if bt112.2 = 1 then (if (bt104.1.length : Int) = 1 then (if 0 < (bt104.1.length : Int) then (if (((rd_T48 bt104.1 0).f2).length : Int) = 3 then (if ((rd_T48 bt104.1 0).f1.f1) = 3 then (if 0 < (((rd_T48 bt104.1 0).f0).length : Int) then (if ((rd_T45 ((rd_T48 bt104.1 0).f0) 0).f1) = 2 then (if (bt108.1.length : Int) = 0 then (if 1 ≤ 2 then (if 2 ≤ (y101.length : Int) then ((hunk_Dull.f ((y101.take 2).drop 1)).bind fun t125 => (if t125 = true then ((hunk_Groups.f y101).bind fun t126 => (if (t126.length : Int) = 1 then ((hunk_May.f k y101).bind fun t129 => (some t129)) else (some false))) else (some false))) else (none)) else (none)) else (some false)) else (some false)) else (none)) else (some false)) else (some false)) else (none)) else (some false)) else (some false)) else (some false)) else (some false))))) = some r := by first | (rw [hy101]; with_reducible exact H) | (have H2_ := (Option.bind_some _ _).symm.trans H; rw [hy101]; with_reducible exact H2_) | (have H2_ := (Option.bind_some _ _).symm.trans H; with_reducible exact H2_) | with_reducible exact H | (rw [hy101]; exact H) | exact H
  have Ny101 := Aside0.mk hy101
  clear hy101
  replace H := Option.bind_eq_some_iff.mp H
  obtain ⟨⟨t104, t107⟩, A10, H⟩ := H
  replace H : ((hunk_Hunks.f y101 1 true).bind fun bt108 => ((hunk_Hunks.f y101 (-1) false).bind fun bt112 => (if t107 = 0 then (if bt108.2 = 0 then (if bt112.2 = 1 then (if (t104.length : Int) = 1 then (if 0 < (t104.length : Int) then (if (((rd_T48 t104 0).f2).length : Int) = 3 then (if ((rd_T48 t104 0).f1.f1) = 3 then (if 0 < (((rd_T48 t104 0).f0).length : Int) then (if ((rd_T45 ((rd_T48 t104 0).f0) 0).f1) = 2 then (if (bt108.1.length : Int) = 0 then (if 1 ≤ 2 then (if 2 ≤ (y101.length : Int) then ((hunk_Dull.f ((y101.take 2).drop 1)).bind fun t125 => (if t125 = true then ((hunk_Groups.f y101).bind fun t126 => (if (t126.length : Int) = 1 then ((hunk_May.f k y101).bind fun t129 => (some t129)) else (some false))) else (some false))) else (none)) else (none)) else (some false)) else (some false)) else (none)) else (some false)) else (some false)) else (none)) else (some false)) else (some false)) else (some false)) else (some false)))) = some r := H
  have A1 := Aside0.mk A10
  clear A10
  replace H := Option.bind_eq_some_iff.mp H
  obtain ⟨⟨t108, t111⟩, A20, H⟩ := H
  replace H : ((hunk_Hunks.f y101 (-1) false).bind fun bt112 => (if t107 = 0 then (if t111 = 0 then (if bt112.2 = 1 then (if (t104.length : Int) = 1 then (if 0 < (t104.length : Int) then (if (((rd_T48 t104 0).f2).length : Int) = 3 then (if ((rd_T48 t104 0).f1.f1) = 3 then (if 0 < (((rd_T48 t104 0).f0).length : Int) then (if ((rd_T45 ((rd_T48 t104 0).f0) 0).f1) = 2 then (if (t108.length : Int) = 0 then (if 1 ≤ 2 then (if 2 ≤ (y101.length : Int) then ((hunk_Dull.f ((y101.take 2).drop 1)).bind fun t125 => (if t125 = true then ((hunk_Groups.f y101).bind fun t126 => (if (t126.length : Int) = 1 then ((hunk_May.f k y101).bind fun t129 => (some t129)) else (some false))) else (some false))) else (none)) else (none)) else (some false)) else (some false)) else (none)) else (some false)) else (some false)) else (none)) else (some false)) else (some false)) else (some false)) else (some false))) = some r := H
  have A2 := Aside0.mk A20
  clear A20
  replace H := Option.bind_eq_some_iff.mp H
  obtain ⟨⟨t112, t115⟩, A30, H⟩ := H
  replace H : (if t107 = 0 then (if t111 = 0 then (if t115 = 1 then (if (t104.length : Int) = 1 then (if 0 < (t104.length : Int) then (if (((rd_T48 t104 0).f2).length : Int) = 3 then (if ((rd_T48 t104 0).f1.f1) = 3 then (if 0 < (((rd_T48 t104 0).f0).length : Int) then (if ((rd_T45 ((rd_T48 t104 0).f0) 0).f1) = 2 then (if (t108.length : Int) = 0 then (if 1 ≤ 2 then (if 2 ≤ (y101.length : Int) then ((hunk_Dull.f ((y101.take 2).drop 1)).bind fun t125 => (if t125 = true then ((hunk_Groups.f y101).bind fun t126 => (if (t126.length : Int) = 1 then ((hunk_May.f k y101).bind fun t129 => (some t129)) else (some false))) else (some false))) else (none)) else (none)) else (some false)) else (some false)) else (none)) else (some false)) else (some false)) else (none)) else (some false)) else (some false)) else (some false)) else (some false)) = some r := H
  have A3 := Aside0.mk A30
  clear A30
  by_cases c4 : t107 = 0
  · rw [if_pos c4] at H
    have c4b0 : (t107 == 0) = true := beq_iff_eq.mpr c4
    have c4b1 : (t107 != 0) = false := bne_eq_false_iff_eq.mpr c4
    clear c4
    by_cases c5 : t111 = 0
    · rw [if_pos c5] at H
      have c5b0 : (t111 == 0) = true := beq_iff_eq.mpr c5
      have c5b1 : (t111 != 0) = false := bne_eq_false_iff_eq.mpr c5
      clear c5
      by_cases c6 : t115 = 1
      · rw [if_pos c6] at H
        have c6b0 : (t115 == 1) = true := beq_iff_eq.mpr c6
        have c6b1 : (t115 != 1) = false := bne_eq_false_iff_eq.mpr c6
        clear c6
        by_cases c7 : (t104.length : Int) = 1
        · rw [if_pos c7] at H
          have c7b0 : ((t104.length : Int) == 1) = true := beq_iff_eq.mpr c7
          have c7b1 : ((t104.length : Int) != 1) = false := bne_eq_false_iff_eq.mpr c7
          clear c7
          by_cases c8 : 0 < (t104.length : Int)
          · rw [if_pos c8] at H
            have c8b0 : decide (0 < (t104.length : Int)) = true := decide_eq_true c8
            have c8b1 : decide (0 < t104.length) = true := decide_eq_true (by omega)
            clear c8
            by_cases c9 : (((rd_T48 t104 0).f2).length : Int) = 3
            · rw [if_pos c9] at H
              have c9b0 : ((((rd_T48 t104 0).f2).length : Int) == 3) = true := beq_iff_eq.mpr c9
              have c9b1 : ((((rd_T48 t104 0).f2).length : Int) != 3) = false := bne_eq_false_iff_eq.mpr c9
              clear c9
              by_cases c10 : ((rd_T48 t104 0).f1.f1) = 3
              · rw [if_pos c10] at H
                have c10b0 : (((rd_T48 t104 0).f1.f1) == 3) = true := beq_iff_eq.mpr c10
                have c10b1 : (((rd_T48 t104 0).f1.f1) != 3) = false := bne_eq_false_iff_eq.mpr c10
                clear c10
                by_cases c11 : 0 < (((rd_T48 t104 0).f0).length : Int)
                · rw [if_pos c11] at H
                  have c11b0 : decide (0 < (((rd_T48 t104 0).f0).length : Int)) = true := decide_eq_true c11
                  have c11b1 : decide (0 < ((rd_T48 t104 0).f0).length) = true := decide_eq_true (by omega)
                  clear c11
                  by_cases c12 : ((rd_T45 ((rd_T48 t104 0).f0) 0).f1) = 2
                  · rw [if_pos c12] at H
                    have c12b0 : (((rd_T45 ((rd_T48 t104 0).f0) 0).f1) == 2) = true := beq_iff_eq.mpr c12
                    have c12b1 : (((rd_T45 ((rd_T48 t104 0).f0) 0).f1) != 2) = false := bne_eq_false_iff_eq.mpr c12
                    clear c12
                    by_cases c13 : (t108.length : Int) = 0
                    · rw [if_pos c13] at H
                      have c13b0 : ((t108.length : Int) == 0) = true := beq_iff_eq.mpr c13
                      have c13b1 : ((t108.length : Int) != 0) = false := bne_eq_false_iff_eq.mpr c13
                      clear c13
                      by_cases c14 : 1 ≤ 2
                      · rw [if_pos c14] at H
                        have c14b0 := eq_true c14
                        have c14b1 : decide (1 ≤ 2) = true := decide_eq_true c14
                        clear c14
                        by_cases c15 : 2 ≤ (y101.length : Int)
                        · rw [if_pos c15] at H
                          have c15b0 := eq_true c15
                          have c15b1 : decide (2 ≤ (y101.length : Int)) = true := decide_eq_true c15
                          clear c15
                          obtain ⟨y120, hy120⟩ : ∃ y_ : List (S57), y_ = ((y101.take 2).drop 1) := ⟨_, rfl⟩
                          replace H : ((hunk_Dull.f y120).bind fun t125 => (if t125 = true then ((hunk_Groups.f y101).bind fun t126 => (if (t126.length : Int) = 1 then ((hunk_May.f k y101).bind fun t129 => (some t129)) else (some false))) else (some false))) = some r := by first | (rw [hy120]; with_reducible exact H) | (have H2_ := (Option.bind_some _ _).symm.trans H; rw [hy120]; with_reducible exact H2_) | (have H2_ := (Option.bind_some _ _).symm.trans H; with_reducible exact H2_) | with_reducible exact H | (rw [hy120]; exact H) | exact H
                          have Ny120 := Aside0.mk hy120
                          clear hy120
                          replace H := Option.bind_eq_some_iff.mp H
                          obtain ⟨t125, A160, H⟩ := H
                          replace H : (if t125 = true then ((hunk_Groups.f y101).bind fun t126 => (if (t126.length : Int) = 1 then ((hunk_May.f k y101).bind fun t129 => (some t129)) else (some false))) else (some false)) = some r := H
                          have A16 := Aside0.mk A160
                          clear A160
                          by_cases c17 : t125 = true
                          · subst c17
                            have H1 : ((hunk_Groups.f y101).bind fun t126 => (if (t126.length : Int) = 1 then ((hunk_May.f k y101).bind fun t129 => (some t129)) else (some false))) = some r := by rw [if_pos rfl] at H; exact H
                            clear H
                            have H := H1
                            clear H1
                            replace H := Option.bind_eq_some_iff.mp H
                            obtain ⟨t126, A180, H⟩ := H
                            replace H : (if (t126.length : Int) = 1 then ((hunk_May.f k y101).bind fun t129 => (some t129)) else (some false)) = some r := H
                            have A18 := Aside0.mk A180
                            clear A180
                            by_cases c19 : (t126.length : Int) = 1
                            · rw [if_pos c19] at H
                              have c19b0 : ((t126.length : Int) == 1) = true := beq_iff_eq.mpr c19
                              have c19b1 : ((t126.length : Int) != 1) = false := bne_eq_false_iff_eq.mpr c19
                              clear c19
                              replace H := Option.bind_eq_some_iff.mp H
                              obtain ⟨t129, A200, H⟩ := H
                              replace H : (some t129) = some r := H
                              have A20 := Aside0.mk A200
                              clear A200
                              obtain rfl := Option.some.inj H
                              go_enter Tryd.func26, Tryd.ntmps26
                              go_wp2_with (first | ((with_reducible refine gate_dst (N := 12) rfl ?_); (try (refine gate_guard (by rfl) ?_; dsimp only)); refine Kd.R_lit k57 _ 57 ?hg (N := 12) ?hd (xs := ([(⟨(⟨#[32, 32]⟩ : ByteArray), (⟨#[97, 10]⟩ : ByteArray)⟩ : S57), (⟨(⟨#[43, 32]⟩ : ByteArray), (⟨#[98, 10]⟩ : ByteArray)⟩ : S57), (⟨(⟨#[32, 32]⟩ : ByteArray), (⟨#[99, 10]⟩ : ByteArray)⟩ : S57), (⟨(⟨#[32, 32]⟩ : ByteArray), (⟨#[100, 10]⟩ : ByteArray)⟩ : S57)] : List (S57))) (inner := [.string (⟨#[32, 32]⟩ : ByteArray), .string (⟨#[97, 10]⟩ : ByteArray), .string (⟨#[43, 32]⟩ : ByteArray), .string (⟨#[98, 10]⟩ : ByteArray), .string (⟨#[32, 32]⟩ : ByteArray), .string (⟨#[99, 10]⟩ : ByteArray), .string (⟨#[32, 32]⟩ : ByteArray), .string (⟨#[100, 10]⟩ : ByteArray)]) (ok := fun _ => True) (okp := fun _ => True) ?hr ?hp (fun _ hk => hk) trivial (Below.refl _ _) (Nat.le_refl _) (by simp) ?_; (case hd => rfl); (case hg => rfl); (case hr => first | (go_simp; done) | (go_simp; rfl)); (case hp => exact (Reps.c2 (show Kd.M k57 _ _ _ (⟨(⟨#[32, 32]⟩ : ByteArray), (⟨#[97, 10]⟩ : ByteArray)⟩ : S57) [.string (⟨#[32, 32]⟩ : ByteArray), .string (⟨#[97, 10]⟩ : ByteArray)] from (k57_mkM _ _ _ (⟨(⟨#[32, 32]⟩ : ByteArray), (⟨#[97, 10]⟩ : ByteArray)⟩ : S57) )) (Reps.c2 (show Kd.M k57 _ _ _ (⟨(⟨#[43, 32]⟩ : ByteArray), (⟨#[98, 10]⟩ : ByteArray)⟩ : S57) [.string (⟨#[43, 32]⟩ : ByteArray), .string (⟨#[98, 10]⟩ : ByteArray)] from (k57_mkM _ _ _ (⟨(⟨#[43, 32]⟩ : ByteArray), (⟨#[98, 10]⟩ : ByteArray)⟩ : S57) )) (Reps.c2 (show Kd.M k57 _ _ _ (⟨(⟨#[32, 32]⟩ : ByteArray), (⟨#[99, 10]⟩ : ByteArray)⟩ : S57) [.string (⟨#[32, 32]⟩ : ByteArray), .string (⟨#[99, 10]⟩ : ByteArray)] from (k57_mkM _ _ _ (⟨(⟨#[32, 32]⟩ : ByteArray), (⟨#[99, 10]⟩ : ByteArray)⟩ : S57) )) (Reps.c2 (show Kd.M k57 _ _ _ (⟨(⟨#[32, 32]⟩ : ByteArray), (⟨#[100, 10]⟩ : ByteArray)⟩ : S57) [.string (⟨#[32, 32]⟩ : ByteArray), .string (⟨#[100, 10]⟩ : ByteArray)] from (k57_mkM _ _ _ (⟨(⟨#[32, 32]⟩ : ByteArray), (⟨#[100, 10]⟩ : ByteArray)⟩ : S57) )) (Reps.none _ _)))))); intro v102 w21 ho22 hb hg_ hnew_; clear hg_ hnew_; (first | rw [← Ny101.out] at ho22 | (simp only [Int.reduceToNat] at ho22; rw [← Ny101.out] at ho22)); have n0_ := Aside0.mk (Kd.R_lower ho22 (below_size (by repeat (first | (with_reducible first | exact HB.out | apply below_alloc | apply pw_below_drewN | apply below_drew1) | exact HB.out)))); have n1_ := Aside0.mk (below_step (by repeat (first | (with_reducible first | exact HB.out | apply below_alloc | apply pw_below_drewN | apply below_drew1) | exact HB.out)) hb); clear HB; have HO103 := n0_; have HB := n1_; clear n0_ n1_; clear hb ho22; obtain ⟨Ao23, co23, eo23⟩ := Kd.R_slice HO103.out; subst eo23) | ((with_reducible refine gate_callee (f := 28) rfl ?_); refine goesL_ (some 15) rfl rfl Tryd.func28 (by kernel_rfl) rfl #[.slice Ao23 y101.length co23, .int .i64 1, .bool false] rfl (by (try simp only [List.map_toArray, List.map_cons, List.map_nil]); first | done | rfl | (simp only [List.length_drop, List.length_take]; rfl)) ?_; (with_reducible refine (hunk_Hunks.calls (fun k_ => some k_ = (.slice Ao23 y101.length co23 : Value).ownBlock) _ _ y101 1 false t104 t107 _ ?side1 A1.out).mono ?_); (case side1 => exact Kd.R_V (Kd.R_tight rfl (HO103.out))); rintro e w24 ⟨v105, rfl, ho0, hb⟩; refine ⟨_, rfl, ?_⟩; have n0_ := Aside0.mk (Kd.R_below (by (with_reducible repeat (first | apply Kd.R_alloc | apply Kd.R_drewN | apply Kd.R_drew)); exact HO103.out) hb); have n1_ := Aside0.mk (Kd.N_lower (Kd.N_mono (ok' := fun k_ => True) ho0 (fun k_ hk_ => trivial)) (below_size (by repeat (first | (with_reducible first | exact HB.out | apply below_alloc | apply pw_below_drewN | apply below_drew1) | exact HB.out)))); have n2_ := Aside0.mk (below_step (by repeat (first | (with_reducible first | exact HB.out | apply below_alloc | apply pw_below_drewN | apply below_drew1) | exact HB.out)) hb); clear HO103; clear HB; have HO103 := n0_; have HO106 := n1_; have HB := n2_; clear n0_ n1_ n2_; (try clear hb); (try clear hb2); (try clear hk); (try clear hi); (try clear ho0)) | ((with_reducible refine gate_callee (f := 28) rfl ?_); refine goesL_ (some 20) rfl rfl Tryd.func28 (by kernel_rfl) rfl #[.slice Ao23 y101.length co23, .int .i64 1, .bool true] rfl (by (try simp only [List.map_toArray, List.map_cons, List.map_nil]); first | done | rfl | (simp only [List.length_drop, List.length_take]; rfl)) ?_; (with_reducible refine (hunk_Hunks.calls (fun k_ => some k_ = (.slice Ao23 y101.length co23 : Value).ownBlock) _ _ y101 1 true t108 t111 _ ?side1 A2.out).mono ?_); (case side1 => exact Kd.R_V (Kd.R_tight rfl (Kd.R_apart' (HO103.out) (Kd.N_typed HO106.out) (by decide)))); rintro e w25 ⟨v109, rfl, ho0, hb⟩; refine ⟨_, rfl, ?_⟩; have n0_ := Aside0.mk (Kd.R_below (by (with_reducible repeat (first | apply Kd.R_alloc | apply Kd.R_drewN | apply Kd.R_drew)); exact HO103.out) hb); have n1_ := Aside0.mk (Kd.N_elder' (by (with_reducible repeat (first | apply Kd.N_alloc | apply Kd.N_drewN | apply Kd.N_drew)); exact HO106.out) (Kd.N_base (by first | exact ho0 | exact Kd.S_N ho0)) hb); have n2_ := Aside0.mk (Kd.N_lower (Kd.N_mono (ok' := fun k_ => some k_ ≠ (v105 : Value).ownBlock) ho0 (fun k_ hk_ => Or.elim hk_ (fun hs_ => ((Kd.R_apart' (HO103.out) (Kd.N_typed HO106.out) (by decide)).1 k_ hs_.symm).2) (fun hn_ => (Kd.fresh' (Kd.N_lt (by (with_reducible repeat (first | apply Kd.N_alloc | apply Kd.N_drewN | apply Kd.N_drew)); exact HO106.out)) k_ hn_)))) (below_size (by repeat (first | (with_reducible first | exact HB.out | apply below_alloc | apply pw_below_drewN | apply below_drew1) | exact HB.out)))); have n3_ := Aside0.mk (below_step (by repeat (first | (with_reducible first | exact HB.out | apply below_alloc | apply pw_below_drewN | apply below_drew1) | exact HB.out)) hb); clear HO103; clear HO106; clear HB; have HO103 := n0_; have HO106 := n1_; have HO110 := n2_; have HB := n3_; clear n0_ n1_ n2_ n3_; (try clear hb); (try clear hb2); (try clear hk); (try clear hi); (try clear ho0)) | ((with_reducible refine gate_callee (f := 28) rfl ?_); refine goesL_ (some 25) rfl rfl Tryd.func28 (by kernel_rfl) rfl #[.slice Ao23 y101.length co23, .int .i64 (-1), .bool false] rfl (by (try simp only [List.map_toArray, List.map_cons, List.map_nil]); first | done | rfl | (simp only [List.length_drop, List.length_take]; rfl)) ?_; (with_reducible refine (hunk_Hunks.calls (fun k_ => some k_ = (.slice Ao23 y101.length co23 : Value).ownBlock) _ _ y101 (-1) false t112 t115 _ ?side1 A3.out).mono ?_); (case side1 => exact Kd.R_V (Kd.R_tight rfl (Kd.R_apart' (Kd.R_apart' (HO103.out) (Kd.N_typed HO106.out) (by decide)) (Kd.N_typed HO110.out) (by decide)))); rintro e w26 ⟨v113, rfl, ho0, hb⟩; refine ⟨_, rfl, ?_⟩; have n0_ := Aside0.mk (Kd.R_below (by (with_reducible repeat (first | apply Kd.R_alloc | apply Kd.R_drewN | apply Kd.R_drew)); exact HO103.out) hb); have n1_ := Aside0.mk (Kd.N_elder' (by (with_reducible repeat (first | apply Kd.N_alloc | apply Kd.N_drewN | apply Kd.N_drew)); exact HO106.out) (Kd.N_base (by first | exact ho0 | exact Kd.S_N ho0)) hb); have n2_ := Aside0.mk (Kd.N_elder' (by (with_reducible repeat (first | apply Kd.N_alloc | apply Kd.N_drewN | apply Kd.N_drew)); exact HO110.out) (Kd.N_base (by first | exact ho0 | exact Kd.S_N ho0)) hb); have n3_ := Aside0.mk (Kd.N_lower (Kd.N_mono (ok' := fun k_ => some k_ ≠ (v105 : Value).ownBlock ∧ some k_ ≠ (v109 : Value).ownBlock) ho0 (fun k_ hk_ => ⟨Or.elim hk_ (fun hs_ => ((Kd.R_apart' (Kd.R_apart' (HO103.out) (Kd.N_typed HO106.out) (by decide)) (Kd.N_typed HO110.out) (by decide)).1 k_ hs_.symm).1.2) (fun hn_ => (Kd.fresh' (Kd.N_lt (by (with_reducible repeat (first | apply Kd.N_alloc | apply Kd.N_drewN | apply Kd.N_drew)); exact HO106.out)) k_ hn_)), Or.elim hk_ (fun hs_ => ((Kd.R_apart' (Kd.R_apart' (HO103.out) (Kd.N_typed HO106.out) (by decide)) (Kd.N_typed HO110.out) (by decide)).1 k_ hs_.symm).2) (fun hn_ => (Kd.fresh' (Kd.N_lt (by (with_reducible repeat (first | apply Kd.N_alloc | apply Kd.N_drewN | apply Kd.N_drew)); exact HO110.out)) k_ hn_))⟩)) (below_size (by repeat (first | (with_reducible first | exact HB.out | apply below_alloc | apply pw_below_drewN | apply below_drew1) | exact HB.out)))); have n4_ := Aside0.mk (below_step (by repeat (first | (with_reducible first | exact HB.out | apply below_alloc | apply pw_below_drewN | apply below_drew1) | exact HB.out)) hb); clear HO103; clear HO106; clear HO110; clear HB; have HO103 := n0_; have HO106 := n1_; have HO110 := n2_; have HO114 := n3_; have HB := n4_; clear n0_ n1_ n2_ n3_ n4_; (try clear hb); (try clear hb2); (try clear hk); (try clear hi); (try clear ho0); obtain ⟨Ao27, co27, eo27⟩ := Kd.N_slice HO106.out; subst eo27; have p116 : 0 ≤ (0 : Int) := (by omega); have q116 : 0 < (t104.length : Int) := of_decide_eq_true (by first | (with_reducible assumption) | assumption); obtain ⟨ad116, A116_0, c116_0, A116_3, c116_3, e116, hx116_0, hx116_1, hx116_2, hx116_3, hl116_0, hi116_0, hl116_3, hi116_3⟩ := at_T48 (Kd.N_reads' HO106.out).2.2 0 p116 q116; cases e116; obtain ⟨ce116, hce116, hMe116, hcc116⟩ := Kd.N_get HO106.out z48 0 p116 (by first | exact q116 | exact of_decide_eq_true (by first | (with_reducible assumption) | assumption) | (have e_ := (Kd.N_reads' HO106.out).1; omega)); obtain ⟨ua116_0, uc116_0, ua116_3, uc116_3, rfl, ul116_0, ge116_0, ul116_3, ge116_3⟩ := k48_openF hMe116; have hv116_0 := hcc116 0 _ rfl; rw [Nat.add_zero] at hv116_0; replace hv116_0 := Option.some.inj (hv116_0.symm.trans hx116_0); injection hv116_0 with hva_ hvn_ hvc_; rw [hva_] at ge116_0; rw [hvc_] at ul116_0; have HL116_0 := Aside0.mk (show Kd.V k45 45 _ w.heap.size _ _ ((rd_T48 t104 0).f0) from Kd.V_mk ul116_0 ge116_0); clear hva_ hvn_ hvc_ ge116_0 ul116_0; have hv116_3 := hcc116 3 _ rfl; rw [add_field _ _ 3 (by omega)] at hv116_3; replace hv116_3 := Option.some.inj (hv116_3.symm.trans hx116_3); injection hv116_3 with hva_ hvn_ hvc_; rw [hva_] at ge116_3; rw [hvc_] at ul116_3; have HL116_3 := Aside0.mk (show Kd.V k57 57 _ w.heap.size _ _ ((rd_T48 t104 0).f2) from Kd.V_mk ul116_3 ge116_3); clear hva_ hvn_ hvc_ ge116_3 ul116_3; clear hcc116 hce116; have qi116 : (0 < t104.length) = True := eq_true (by omega); (try rw [show ((0 : Int)).toNat = 0 from rfl] at hx116_0); (try rw [show 0 * 4 = 0 from rfl] at hx116_0); (try rw [Addr.add_zero'] at hx116_0); (try rw [show ((0 : Int)).toNat = 0 from rfl] at hx116_1); (try rw [show 0 * 4 = 0 from rfl] at hx116_1); (try rw [Addr.add_zero'] at hx116_1); (try rw [show ((0 : Int)).toNat = 0 from rfl] at hx116_2); (try rw [show 0 * 4 = 0 from rfl] at hx116_2); (try rw [Addr.add_zero'] at hx116_2); (try rw [show ((0 : Int)).toNat = 0 from rfl] at hx116_3); (try rw [show 0 * 4 = 0 from rfl] at hx116_3); (try rw [Addr.add_zero'] at hx116_3); have HR116_0 := Aside0.mk hi116_0; have HC116_0 := Aside0.mk hl116_0; clear hi116_0 hl116_0; have HR116_3 := Aside0.mk hi116_3; have HC116_3 := Aside0.mk hl116_3; clear hi116_3 hl116_3; replace p116 := eq_true p116; replace q116 := eq_true q116; have p117 : 0 ≤ (0 : Int) := (by omega); have q117 : 0 < (t104.length : Int) := of_decide_eq_true (by first | (with_reducible assumption) | assumption); obtain ⟨ad117, A117_0, c117_0, A117_3, c117_3, e117, hx117_0, hx117_1, hx117_2, hx117_3, hl117_0, hi117_0, hl117_3, hi117_3⟩ := at_T48 (Kd.N_reads' HO106.out).2.2 0 p117 q117; obtain rfl : ad116 = ad117 := (by injection e117); obtain ⟨ce117, hce117, hMe117, hcc117⟩ := Kd.N_get HO106.out z48 0 p117 (by first | exact q117 | exact of_decide_eq_true (by first | (with_reducible assumption) | assumption) | (have e_ := (Kd.N_reads' HO106.out).1; omega)); obtain ⟨ua117_0, uc117_0, ua117_3, uc117_3, rfl, ul117_0, ge117_0, ul117_3, ge117_3⟩ := k48_openF hMe117; have hv117_0 := hcc117 0 _ rfl; rw [Nat.add_zero] at hv117_0; replace hv117_0 := Option.some.inj (hv117_0.symm.trans hx117_0); injection hv117_0 with hva_ hvn_ hvc_; rw [hva_] at ge117_0; rw [hvc_] at ul117_0; have HL117_0 := Aside0.mk (show Kd.V k45 45 _ w.heap.size _ _ ((rd_T48 t104 0).f0) from Kd.V_mk ul117_0 ge117_0); clear hva_ hvn_ hvc_ ge117_0 ul117_0; have hv117_3 := hcc117 3 _ rfl; rw [add_field _ _ 3 (by omega)] at hv117_3; replace hv117_3 := Option.some.inj (hv117_3.symm.trans hx117_3); injection hv117_3 with hva_ hvn_ hvc_; rw [hva_] at ge117_3; rw [hvc_] at ul117_3; have HL117_3 := Aside0.mk (show Kd.V k57 57 _ w.heap.size _ _ ((rd_T48 t104 0).f2) from Kd.V_mk ul117_3 ge117_3); clear hva_ hvn_ hvc_ ge117_3 ul117_3; clear hcc117 hce117; have qi117 : (0 < t104.length) = True := eq_true (by omega); (try rw [show ((0 : Int)).toNat = 0 from rfl] at hx117_0); (try rw [show 0 * 4 = 0 from rfl] at hx117_0); (try rw [Addr.add_zero'] at hx117_0); (try rw [show ((0 : Int)).toNat = 0 from rfl] at hx117_1); (try rw [show 0 * 4 = 0 from rfl] at hx117_1); (try rw [Addr.add_zero'] at hx117_1); (try rw [show ((0 : Int)).toNat = 0 from rfl] at hx117_2); (try rw [show 0 * 4 = 0 from rfl] at hx117_2); (try rw [Addr.add_zero'] at hx117_2); (try rw [show ((0 : Int)).toNat = 0 from rfl] at hx117_3); (try rw [show 0 * 4 = 0 from rfl] at hx117_3); (try rw [Addr.add_zero'] at hx117_3); have HR117_0 := Aside0.mk hi117_0; have HC117_0 := Aside0.mk hl117_0; clear hi117_0 hl117_0; have HR117_3 := Aside0.mk hi117_3; have HC117_3 := Aside0.mk hl117_3; clear hi117_3 hl117_3; replace p117 := eq_true p117; replace q117 := eq_true q117; have ea_ := Option.some.inj (hx116_0.symm.trans hx117_0); injection ea_ with ea_ en_ ec_; subst ea_; subst ec_; clear en_; have ea_ := Option.some.inj (hx116_3.symm.trans hx117_3); injection ea_ with ea_ en_ ec_; subst ea_; subst ec_; clear en_; have p118 : 0 ≤ (0 : Int) := (by omega); have q118 : 0 < (t104.length : Int) := of_decide_eq_true (by first | (with_reducible assumption) | assumption); obtain ⟨ad118, A118_0, c118_0, A118_3, c118_3, e118, hx118_0, hx118_1, hx118_2, hx118_3, hl118_0, hi118_0, hl118_3, hi118_3⟩ := at_T48 (Kd.N_reads' HO106.out).2.2 0 p118 q118; obtain rfl : ad116 = ad118 := (by injection e118); obtain ⟨ce118, hce118, hMe118, hcc118⟩ := Kd.N_get HO106.out z48 0 p118 (by first | exact q118 | exact of_decide_eq_true (by first | (with_reducible assumption) | assumption) | (have e_ := (Kd.N_reads' HO106.out).1; omega)); obtain ⟨ua118_0, uc118_0, ua118_3, uc118_3, rfl, ul118_0, ge118_0, ul118_3, ge118_3⟩ := k48_openF hMe118; have hv118_0 := hcc118 0 _ rfl; rw [Nat.add_zero] at hv118_0; replace hv118_0 := Option.some.inj (hv118_0.symm.trans hx118_0); injection hv118_0 with hva_ hvn_ hvc_; rw [hva_] at ge118_0; rw [hvc_] at ul118_0; have HL118_0 := Aside0.mk (show Kd.V k45 45 _ w.heap.size _ _ ((rd_T48 t104 0).f0) from Kd.V_mk ul118_0 ge118_0); clear hva_ hvn_ hvc_ ge118_0 ul118_0; have hv118_3 := hcc118 3 _ rfl; rw [add_field _ _ 3 (by omega)] at hv118_3; replace hv118_3 := Option.some.inj (hv118_3.symm.trans hx118_3); injection hv118_3 with hva_ hvn_ hvc_; rw [hva_] at ge118_3; rw [hvc_] at ul118_3; have HL118_3 := Aside0.mk (show Kd.V k57 57 _ w.heap.size _ _ ((rd_T48 t104 0).f2) from Kd.V_mk ul118_3 ge118_3); clear hva_ hvn_ hvc_ ge118_3 ul118_3; clear hcc118 hce118; have qi118 : (0 < t104.length) = True := eq_true (by omega); (try rw [show ((0 : Int)).toNat = 0 from rfl] at hx118_0); (try rw [show 0 * 4 = 0 from rfl] at hx118_0); (try rw [Addr.add_zero'] at hx118_0); (try rw [show ((0 : Int)).toNat = 0 from rfl] at hx118_1); (try rw [show 0 * 4 = 0 from rfl] at hx118_1); (try rw [Addr.add_zero'] at hx118_1); (try rw [show ((0 : Int)).toNat = 0 from rfl] at hx118_2); (try rw [show 0 * 4 = 0 from rfl] at hx118_2); (try rw [Addr.add_zero'] at hx118_2); (try rw [show ((0 : Int)).toNat = 0 from rfl] at hx118_3); (try rw [show 0 * 4 = 0 from rfl] at hx118_3); (try rw [Addr.add_zero'] at hx118_3); have HR118_0 := Aside0.mk hi118_0; have HC118_0 := Aside0.mk hl118_0; clear hi118_0 hl118_0; have HR118_3 := Aside0.mk hi118_3; have HC118_3 := Aside0.mk hl118_3; clear hi118_3 hl118_3; replace p118 := eq_true p118; replace q118 := eq_true q118; have ea_ := Option.some.inj (hx116_0.symm.trans hx118_0); injection ea_ with ea_ en_ ec_; subst ea_; subst ec_; clear en_; have ea_ := Option.some.inj (hx116_3.symm.trans hx118_3); injection ea_ with ea_ en_ ec_; subst ea_; subst ec_; clear en_; have p119 : 0 ≤ (0 : Int) := (by omega); have q119 : 0 < (((rd_T48 t104 0).f0).length : Int) := of_decide_eq_true (by first | (with_reducible assumption) | assumption); obtain ⟨ad119, e119, hx119_0, hx119_1⟩ := at_T45 (by repeat (first | (with_reducible exact HR118_0.out) | (with_reducible refine Kd.C_alloc ?_ _) | (with_reducible refine Kd.C_drewN ?_ _) | (with_reducible refine Kd.C_drew ?_) | exact HR118_0.out)) 0 p119 q119; cases e119; have qi119 : (0 < ((rd_T48 t104 0).f0).length) = True := eq_true (by omega); (try rw [show ((0 : Int)).toNat = 0 from rfl] at hx119_0); (try rw [show 0 * 2 = 0 from rfl] at hx119_0); (try rw [Addr.add_zero'] at hx119_0); (try rw [show ((0 : Int)).toNat = 0 from rfl] at hx119_1); (try rw [show 0 * 2 = 0 from rfl] at hx119_1); (try rw [Addr.add_zero'] at hx119_1); replace p119 := eq_true p119; replace q119 := eq_true q119; obtain ⟨Ao28, co28, eo28⟩ := Kd.N_slice HO110.out; subst eo28; have q29 : (2 : Int) ≤ ((y101.length : Int) : Int) := of_decide_eq_true (by first | (with_reducible assumption) | assumption); obtain ⟨i029, hi029, _, hsz29, _⟩ := info_parts info57; have hroom29 : y101.length ≤ co23 := (Kd.R_reads' HO103.out).2.1; have hC29 : Kd.F k57 _ _ Ao23 y101.length y101 := (Kd.V_at (base := w.heap.size) (Kd.R_V (Kd.R_apart' (Kd.R_apart' (Kd.R_apart' (HO103.out) (Kd.N_typed HO106.out) (by decide)) (Kd.N_typed HO110.out) (by decide)) (Kd.N_typed HO114.out) (by decide)))).2.2; have ql29 : (1 : Int) ≤ (2 : Int) := (by omega); have hcut29 := cut_mid (P := Tryd.prog) 36 57 .i64 .i64 Tryd.underlying36 hi029 2 hsz29 Ao23 y101.length co23 1 2 (by omega) ql29 q29 hroom29; have hr29 := Kd.F_mid (lo := (1 : Int).toNat) (hi := (2 : Int).toNat) (c := co23) hC29 (by omega) (by omega) hroom29; obtain ⟨A29, hA29⟩ : ∃ Az_, Az_ = (if co23 = (1 : Int).toNat then Ao23 else (Ao23 : Option Addr).map (·.add ((1 : Int).toNat * 2))) := ⟨_, rfl⟩; obtain ⟨c29, hc29⟩ : ∃ c1, c1 = co23 - (1 : Int).toNat := ⟨_, rfl⟩; have hy29 : y120.length = (2 : Int).toNat - (1 : Int).toNat := (by rw [Ny120.out, List.length_drop, List.length_take] <;> omega); rw [show ((y101).take (2 : Int).toNat).drop (1 : Int).toNat = y120 from Ny120.out.symm] at hr29; replace hr29 : Kd.F k57 _ _ A29 y120.length y120 := (by rw [hA29]; exact hr29); rw [← hy29, ← hA29, ← hc29] at hcut29; have HO124 := Aside0.mk (show Kd.V k57 57 _ w.heap.size _ (.slice A29 y120.length c29) y120 from Kd.V_mk (by rw [hy29, hc29]; exact Nat.sub_le_sub_right (Nat.le_trans (by omega) hroom29) _) hr29); have HC124 := Aside0.mk (show y120.length ≤ c29 from by rw [hy29, hc29]; exact Nat.sub_le_sub_right (Nat.le_trans (by omega) hroom29) _); clear hr29 hC29 hroom29 hi029 hsz29 hc29; have KY29 := Aside0.mk hy29; have KA29 := Aside0.mk hA29; clear hy29 hA29; replace q29 := eq_true q29) | (go_at_call 33; (with_reducible refine (hunk_Dull.calls _ _ y120 true _ ?side1 ?side2 A16.out).mono ?_); (case side1 => repeat (first | exact (Kd.V_reads' HO124.out).2.2 | (with_reducible refine Kd.C_alloc ?_ _) | (with_reducible refine Kd.C_drewN ?_ _) | (with_reducible refine Kd.C_drew ?_))); (case side2 => exact (Kd.V_reads' HO124.out).2.1); rintro e w30 ⟨rfl, hb⟩; have n0_ := Aside0.mk (Kd.R_below (by (with_reducible repeat (first | apply Kd.R_alloc | apply Kd.R_drewN | apply Kd.R_drew)); exact HO103.out) hb); have n1_ := Aside0.mk (Kd.N_below (by (with_reducible repeat (first | apply Kd.N_alloc | apply Kd.N_drewN | apply Kd.N_drew)); exact HO106.out) hb); have n2_ := Aside0.mk (Kd.N_below (by (with_reducible repeat (first | apply Kd.N_alloc | apply Kd.N_drewN | apply Kd.N_drew)); exact HO110.out) hb); have n3_ := Aside0.mk (Kd.N_below (by (with_reducible repeat (first | apply Kd.N_alloc | apply Kd.N_drewN | apply Kd.N_drew)); exact HO114.out) hb); have n4_ := Aside0.mk (Kd.V_below (by (with_reducible repeat (first | apply Kd.V_alloc | apply Kd.V_drewN | apply Kd.V_drew)); exact HL116_0.out) hb); have n5_ := Aside0.mk (Kd.V_below (by (with_reducible repeat (first | apply Kd.V_alloc | apply Kd.V_drewN | apply Kd.V_drew)); exact HL116_3.out) hb); have n6_ := Aside0.mk (Kd.V_below (by (with_reducible repeat (first | apply Kd.V_alloc | apply Kd.V_drewN | apply Kd.V_drew)); exact HL117_0.out) hb); have n7_ := Aside0.mk (Kd.V_below (by (with_reducible repeat (first | apply Kd.V_alloc | apply Kd.V_drewN | apply Kd.V_drew)); exact HL117_3.out) hb); have n8_ := Aside0.mk (Kd.V_below (by (with_reducible repeat (first | apply Kd.V_alloc | apply Kd.V_drewN | apply Kd.V_drew)); exact HL118_0.out) hb); have n9_ := Aside0.mk (Kd.V_below (by (with_reducible repeat (first | apply Kd.V_alloc | apply Kd.V_drewN | apply Kd.V_drew)); exact HL118_3.out) hb); have n10_ := Aside0.mk (Kd.V_below (by (with_reducible repeat (first | apply Kd.V_alloc | apply Kd.V_drewN | apply Kd.V_drew)); exact HO124.out) hb); have n11_ := Aside0.mk (Kd.C_below (by repeat (first | (with_reducible exact HR116_0.out) | (with_reducible refine Kd.C_alloc ?_ _) | (with_reducible refine Kd.C_drewN ?_ _) | (with_reducible refine Kd.C_drew ?_) | exact HR116_0.out)) hb); have n12_ := Aside0.mk (Kd.C_below (by repeat (first | (with_reducible exact HR116_3.out) | (with_reducible refine Kd.C_alloc ?_ _) | (with_reducible refine Kd.C_drewN ?_ _) | (with_reducible refine Kd.C_drew ?_) | exact HR116_3.out)) hb); have n13_ := Aside0.mk (Kd.C_below (by repeat (first | (with_reducible exact HR117_0.out) | (with_reducible refine Kd.C_alloc ?_ _) | (with_reducible refine Kd.C_drewN ?_ _) | (with_reducible refine Kd.C_drew ?_) | exact HR117_0.out)) hb); have n14_ := Aside0.mk (Kd.C_below (by repeat (first | (with_reducible exact HR117_3.out) | (with_reducible refine Kd.C_alloc ?_ _) | (with_reducible refine Kd.C_drewN ?_ _) | (with_reducible refine Kd.C_drew ?_) | exact HR117_3.out)) hb); have n15_ := Aside0.mk (Kd.C_below (by repeat (first | (with_reducible exact HR118_0.out) | (with_reducible refine Kd.C_alloc ?_ _) | (with_reducible refine Kd.C_drewN ?_ _) | (with_reducible refine Kd.C_drew ?_) | exact HR118_0.out)) hb); have n16_ := Aside0.mk (Kd.C_below (by repeat (first | (with_reducible exact HR118_3.out) | (with_reducible refine Kd.C_alloc ?_ _) | (with_reducible refine Kd.C_drewN ?_ _) | (with_reducible refine Kd.C_drew ?_) | exact HR118_3.out)) hb); have n17_ := Aside0.mk (below_step (by repeat (first | (with_reducible first | exact HB.out | apply below_alloc | apply pw_below_drewN | apply below_drew1) | exact HB.out)) hb); clear HO103; clear HO106; clear HO110; clear HO114; clear HL116_0; clear HL116_3; clear HL117_0; clear HL117_3; clear HL118_0; clear HL118_3; clear HO124; clear HR116_0; clear HR116_3; clear HR117_0; clear HR117_3; clear HR118_0; clear HR118_3; clear HB; have HO103 := n0_; have HO106 := n1_; have HO110 := n2_; have HO114 := n3_; have HL116_0 := n4_; have HL116_3 := n5_; have HL117_0 := n6_; have HL117_3 := n7_; have HL118_0 := n8_; have HL118_3 := n9_; have HO124 := n10_; have HR116_0 := n11_; have HR116_3 := n12_; have HR117_0 := n13_; have HR117_3 := n14_; have HR118_0 := n15_; have HR118_3 := n16_; have HB := n17_; clear n0_ n1_ n2_ n3_ n4_ n5_ n6_ n7_ n8_ n9_ n10_ n11_ n12_ n13_ n14_ n15_ n16_ n17_; (try clear hb); (try clear hb2); (try clear hk); (try clear hi)) | (go_at_call 31; (with_reducible refine (hunk_Groups.calls _ _ y101 t126 _ ?side1 ?side2 A18.out).mono ?_); (case side1 => repeat (first | exact (Kd.R_reads' HO103.out).2.2 | (with_reducible refine Kd.C_alloc ?_ _) | (with_reducible refine Kd.C_drewN ?_ _) | (with_reducible refine Kd.C_drew ?_))); (case side2 => exact (Kd.R_reads' HO103.out).2.1); rintro e w31 ⟨v127, rfl, ho0, hb⟩; have n0_ := Aside0.mk (Kd.R_below (by (with_reducible repeat (first | apply Kd.R_alloc | apply Kd.R_drewN | apply Kd.R_drew)); exact HO103.out) hb); have n1_ := Aside0.mk (Kd.N_elder' (by (with_reducible repeat (first | apply Kd.N_alloc | apply Kd.N_drewN | apply Kd.N_drew)); exact HO106.out) (Kd.R_base ho0) hb); have n2_ := Aside0.mk (Kd.N_elder' (by (with_reducible repeat (first | apply Kd.N_alloc | apply Kd.N_drewN | apply Kd.N_drew)); exact HO110.out) (Kd.R_base ho0) hb); have n3_ := Aside0.mk (Kd.N_elder' (by (with_reducible repeat (first | apply Kd.N_alloc | apply Kd.N_drewN | apply Kd.N_drew)); exact HO114.out) (Kd.R_base ho0) hb); have n4_ := Aside0.mk (Kd.V_elder' (by (with_reducible repeat (first | apply Kd.V_alloc | apply Kd.V_drewN | apply Kd.V_drew)); exact HL116_0.out) (Kd.R_base ho0) hb); have n5_ := Aside0.mk (Kd.V_elder' (by (with_reducible repeat (first | apply Kd.V_alloc | apply Kd.V_drewN | apply Kd.V_drew)); exact HL116_3.out) (Kd.R_base ho0) hb); have n6_ := Aside0.mk (Kd.V_elder' (by (with_reducible repeat (first | apply Kd.V_alloc | apply Kd.V_drewN | apply Kd.V_drew)); exact HL117_0.out) (Kd.R_base ho0) hb); have n7_ := Aside0.mk (Kd.V_elder' (by (with_reducible repeat (first | apply Kd.V_alloc | apply Kd.V_drewN | apply Kd.V_drew)); exact HL117_3.out) (Kd.R_base ho0) hb); have n8_ := Aside0.mk (Kd.V_elder' (by (with_reducible repeat (first | apply Kd.V_alloc | apply Kd.V_drewN | apply Kd.V_drew)); exact HL118_0.out) (Kd.R_base ho0) hb); have n9_ := Aside0.mk (Kd.V_elder' (by (with_reducible repeat (first | apply Kd.V_alloc | apply Kd.V_drewN | apply Kd.V_drew)); exact HL118_3.out) (Kd.R_base ho0) hb); have n10_ := Aside0.mk (Kd.V_elder' (by (with_reducible repeat (first | apply Kd.V_alloc | apply Kd.V_drewN | apply Kd.V_drew)); exact HO124.out) (Kd.R_base ho0) hb); have n11_ := Aside0.mk (Kd.R_lower ho0 (below_size (by repeat (first | (with_reducible first | exact HB.out | apply below_alloc | apply pw_below_drewN | apply below_drew1) | exact HB.out)))); have n12_ := Aside0.mk (Kd.C_below (by repeat (first | (with_reducible exact HR116_0.out) | (with_reducible refine Kd.C_alloc ?_ _) | (with_reducible refine Kd.C_drewN ?_ _) | (with_reducible refine Kd.C_drew ?_) | exact HR116_0.out)) hb); have n13_ := Aside0.mk (Kd.C_below (by repeat (first | (with_reducible exact HR116_3.out) | (with_reducible refine Kd.C_alloc ?_ _) | (with_reducible refine Kd.C_drewN ?_ _) | (with_reducible refine Kd.C_drew ?_) | exact HR116_3.out)) hb); have n14_ := Aside0.mk (Kd.C_below (by repeat (first | (with_reducible exact HR117_0.out) | (with_reducible refine Kd.C_alloc ?_ _) | (with_reducible refine Kd.C_drewN ?_ _) | (with_reducible refine Kd.C_drew ?_) | exact HR117_0.out)) hb); have n15_ := Aside0.mk (Kd.C_below (by repeat (first | (with_reducible exact HR117_3.out) | (with_reducible refine Kd.C_alloc ?_ _) | (with_reducible refine Kd.C_drewN ?_ _) | (with_reducible refine Kd.C_drew ?_) | exact HR117_3.out)) hb); have n16_ := Aside0.mk (Kd.C_below (by repeat (first | (with_reducible exact HR118_0.out) | (with_reducible refine Kd.C_alloc ?_ _) | (with_reducible refine Kd.C_drewN ?_ _) | (with_reducible refine Kd.C_drew ?_) | exact HR118_0.out)) hb); have n17_ := Aside0.mk (Kd.C_below (by repeat (first | (with_reducible exact HR118_3.out) | (with_reducible refine Kd.C_alloc ?_ _) | (with_reducible refine Kd.C_drewN ?_ _) | (with_reducible refine Kd.C_drew ?_) | exact HR118_3.out)) hb); have n18_ := Aside0.mk (below_step (by repeat (first | (with_reducible first | exact HB.out | apply below_alloc | apply pw_below_drewN | apply below_drew1) | exact HB.out)) hb); clear HO103; clear HO106; clear HO110; clear HO114; clear HL116_0; clear HL116_3; clear HL117_0; clear HL117_3; clear HL118_0; clear HL118_3; clear HO124; clear HR116_0; clear HR116_3; clear HR117_0; clear HR117_3; clear HR118_0; clear HR118_3; clear HB; have HO103 := n0_; have HO106 := n1_; have HO110 := n2_; have HO114 := n3_; have HL116_0 := n4_; have HL116_3 := n5_; have HL117_0 := n6_; have HL117_3 := n7_; have HL118_0 := n8_; have HL118_3 := n9_; have HO124 := n10_; have HO128 := n11_; have HR116_0 := n12_; have HR116_3 := n13_; have HR117_0 := n14_; have HR117_3 := n15_; have HR118_0 := n16_; have HR118_3 := n17_; have HB := n18_; clear n0_ n1_ n2_ n3_ n4_ n5_ n6_ n7_ n8_ n9_ n10_ n11_ n12_ n13_ n14_ n15_ n16_ n17_ n18_; (try clear hb); (try clear hb2); (try clear hk); (try clear hi); (try clear ho0); obtain ⟨Ao32, co32, eo32⟩ := Kd.R_slice HO128.out; subst eo32) | (go_at_call 35; (with_reducible refine (hunk_May.calls k _ _ y101 t129 _ ?side1 ?side2 A20.out).mono ?_); (case side1 => repeat (first | exact (Kd.R_reads' HO103.out).2.2 | (with_reducible refine Kd.C_alloc ?_ _) | (with_reducible refine Kd.C_drewN ?_ _) | (with_reducible refine Kd.C_drew ?_))); (case side2 => exact (Kd.R_reads' HO103.out).2.1); rintro e w33 ⟨rfl, hb⟩; have n0_ := Aside0.mk (Kd.R_below (by (with_reducible repeat (first | apply Kd.R_alloc | apply Kd.R_drewN | apply Kd.R_drew)); exact HO103.out) hb); have n1_ := Aside0.mk (Kd.N_below (by (with_reducible repeat (first | apply Kd.N_alloc | apply Kd.N_drewN | apply Kd.N_drew)); exact HO106.out) hb); have n2_ := Aside0.mk (Kd.N_below (by (with_reducible repeat (first | apply Kd.N_alloc | apply Kd.N_drewN | apply Kd.N_drew)); exact HO110.out) hb); have n3_ := Aside0.mk (Kd.N_below (by (with_reducible repeat (first | apply Kd.N_alloc | apply Kd.N_drewN | apply Kd.N_drew)); exact HO114.out) hb); have n4_ := Aside0.mk (Kd.V_below (by (with_reducible repeat (first | apply Kd.V_alloc | apply Kd.V_drewN | apply Kd.V_drew)); exact HL116_0.out) hb); have n5_ := Aside0.mk (Kd.V_below (by (with_reducible repeat (first | apply Kd.V_alloc | apply Kd.V_drewN | apply Kd.V_drew)); exact HL116_3.out) hb); have n6_ := Aside0.mk (Kd.V_below (by (with_reducible repeat (first | apply Kd.V_alloc | apply Kd.V_drewN | apply Kd.V_drew)); exact HL117_0.out) hb); have n7_ := Aside0.mk (Kd.V_below (by (with_reducible repeat (first | apply Kd.V_alloc | apply Kd.V_drewN | apply Kd.V_drew)); exact HL117_3.out) hb); have n8_ := Aside0.mk (Kd.V_below (by (with_reducible repeat (first | apply Kd.V_alloc | apply Kd.V_drewN | apply Kd.V_drew)); exact HL118_0.out) hb); have n9_ := Aside0.mk (Kd.V_below (by (with_reducible repeat (first | apply Kd.V_alloc | apply Kd.V_drewN | apply Kd.V_drew)); exact HL118_3.out) hb); have n10_ := Aside0.mk (Kd.V_below (by (with_reducible repeat (first | apply Kd.V_alloc | apply Kd.V_drewN | apply Kd.V_drew)); exact HO124.out) hb); have n11_ := Aside0.mk (Kd.R_below (by (with_reducible repeat (first | apply Kd.R_alloc | apply Kd.R_drewN | apply Kd.R_drew)); exact HO128.out) hb); have n12_ := Aside0.mk (Kd.C_below (by repeat (first | (with_reducible exact HR116_0.out) | (with_reducible refine Kd.C_alloc ?_ _) | (with_reducible refine Kd.C_drewN ?_ _) | (with_reducible refine Kd.C_drew ?_) | exact HR116_0.out)) hb); have n13_ := Aside0.mk (Kd.C_below (by repeat (first | (with_reducible exact HR116_3.out) | (with_reducible refine Kd.C_alloc ?_ _) | (with_reducible refine Kd.C_drewN ?_ _) | (with_reducible refine Kd.C_drew ?_) | exact HR116_3.out)) hb); have n14_ := Aside0.mk (Kd.C_below (by repeat (first | (with_reducible exact HR117_0.out) | (with_reducible refine Kd.C_alloc ?_ _) | (with_reducible refine Kd.C_drewN ?_ _) | (with_reducible refine Kd.C_drew ?_) | exact HR117_0.out)) hb); have n15_ := Aside0.mk (Kd.C_below (by repeat (first | (with_reducible exact HR117_3.out) | (with_reducible refine Kd.C_alloc ?_ _) | (with_reducible refine Kd.C_drewN ?_ _) | (with_reducible refine Kd.C_drew ?_) | exact HR117_3.out)) hb); have n16_ := Aside0.mk (Kd.C_below (by repeat (first | (with_reducible exact HR118_0.out) | (with_reducible refine Kd.C_alloc ?_ _) | (with_reducible refine Kd.C_drewN ?_ _) | (with_reducible refine Kd.C_drew ?_) | exact HR118_0.out)) hb); have n17_ := Aside0.mk (Kd.C_below (by repeat (first | (with_reducible exact HR118_3.out) | (with_reducible refine Kd.C_alloc ?_ _) | (with_reducible refine Kd.C_drewN ?_ _) | (with_reducible refine Kd.C_drew ?_) | exact HR118_3.out)) hb); have n18_ := Aside0.mk (below_step (by repeat (first | (with_reducible first | exact HB.out | apply below_alloc | apply pw_below_drewN | apply below_drew1) | exact HB.out)) hb); clear HO103; clear HO106; clear HO110; clear HO114; clear HL116_0; clear HL116_3; clear HL117_0; clear HL117_3; clear HL118_0; clear HL118_3; clear HO124; clear HO128; clear HR116_0; clear HR116_3; clear HR117_0; clear HR117_3; clear HR118_0; clear HR118_3; clear HB; have HO103 := n0_; have HO106 := n1_; have HO110 := n2_; have HO114 := n3_; have HL116_0 := n4_; have HL116_3 := n5_; have HL117_0 := n6_; have HL117_3 := n7_; have HL118_0 := n8_; have HL118_3 := n9_; have HO124 := n10_; have HO128 := n11_; have HR116_0 := n12_; have HR116_3 := n13_; have HR117_0 := n14_; have HR117_3 := n15_; have HR118_0 := n16_; have HR118_3 := n17_; have HB := n18_; clear n0_ n1_ n2_ n3_ n4_ n5_ n6_ n7_ n8_ n9_ n10_ n11_ n12_ n13_ n14_ n15_ n16_ n17_ n18_; (try clear hb); (try clear hb2); (try clear hk); (try clear hi)))
                              go_ret
                              exact ⟨by first | rfl | (simp [errW_none, errW_some] <;> rfl) | (simp [*, errW_none, errW_some] <;> rfl), by repeat (first | (with_reducible first | exact HB.out | apply below_alloc | apply pw_below_drewN | apply below_drew1) | exact HB.out)⟩
                            · rw [if_neg c19] at H
                              have c19b0 : ((t126.length : Int) == 1) = false := beq_eq_false_iff_ne.mpr c19
                              have c19b1 : ((t126.length : Int) != 1) = true := bne_iff_ne.mpr c19
                              exact absurd (Option.some.inj H) (by rw [hrt_]; decide)
                          · replace c17 := Bool.eq_false_iff.mpr c17
                            subst c17
                            have H1 : (some false) = some r := by rw [if_neg (show ¬ (false = true) by decide)] at H; exact H
                            clear H
                            have H := H1
                            clear H1
                            exact absurd (Option.some.inj H) (by rw [hrt_]; decide)
                        · rw [if_neg c15] at H
                          exact absurd H (by simp)
                      · rw [if_neg c14] at H
                        exact absurd H (by simp)
                    · rw [if_neg c13] at H
                      have c13b0 : ((t108.length : Int) == 0) = false := beq_eq_false_iff_ne.mpr c13
                      have c13b1 : ((t108.length : Int) != 0) = true := bne_iff_ne.mpr c13
                      have c13b2 : ¬ (t108 = []) := fun h_ => c13 (by rw [h_]; rfl)
                      exact absurd (Option.some.inj H) (by rw [hrt_]; decide)
                  · rw [if_neg c12] at H
                    have c12b0 : (((rd_T45 ((rd_T48 t104 0).f0) 0).f1) == 2) = false := beq_eq_false_iff_ne.mpr c12
                    have c12b1 : (((rd_T45 ((rd_T48 t104 0).f0) 0).f1) != 2) = true := bne_iff_ne.mpr c12
                    exact absurd (Option.some.inj H) (by rw [hrt_]; decide)
                · rw [if_neg c11] at H
                  exact absurd H (by simp)
              · rw [if_neg c10] at H
                have c10b0 : (((rd_T48 t104 0).f1.f1) == 3) = false := beq_eq_false_iff_ne.mpr c10
                have c10b1 : (((rd_T48 t104 0).f1.f1) != 3) = true := bne_iff_ne.mpr c10
                exact absurd (Option.some.inj H) (by rw [hrt_]; decide)
            · rw [if_neg c9] at H
              have c9b0 : ((((rd_T48 t104 0).f2).length : Int) == 3) = false := beq_eq_false_iff_ne.mpr c9
              have c9b1 : ((((rd_T48 t104 0).f2).length : Int) != 3) = true := bne_iff_ne.mpr c9
              exact absurd (Option.some.inj H) (by rw [hrt_]; decide)
          · rw [if_neg c8] at H
            exact absurd H (by simp)
        · rw [if_neg c7] at H
          have c7b0 : ((t104.length : Int) == 1) = false := beq_eq_false_iff_ne.mpr c7
          have c7b1 : ((t104.length : Int) != 1) = true := bne_iff_ne.mpr c7
          exact absurd (Option.some.inj H) (by rw [hrt_]; decide)
      · rw [if_neg c6] at H
        have c6b0 : (t115 == 1) = false := beq_eq_false_iff_ne.mpr c6
        have c6b1 : (t115 != 1) = true := bne_iff_ne.mpr c6
        exact absurd (Option.some.inj H) (by rw [hrt_]; decide)
    · rw [if_neg c5] at H
      have c5b0 : (t111 == 0) = false := beq_eq_false_iff_ne.mpr c5
      have c5b1 : (t111 != 0) = true := bne_iff_ne.mpr c5
      exact absurd (Option.some.inj H) (by rw [hrt_]; decide)
  · rw [if_neg c4] at H
    have c4b0 : (t107 == 0) = false := beq_eq_false_iff_ne.mpr c4
    have c4b1 : (t107 != 0) = true := bne_iff_ne.mpr c4
    exact absurd (Option.some.inj H) (by rw [hrt_]; decide)
end Go.Proofs.YthcnfflhejogfaaDoor.X
-- part XLn1
namespace Go.Proofs.YthcnfflhejogfaaDoor.X
open Go.RowKit Go.Proofs.YthcnfflhejogfaaDoorW.PrintWords Go.Proofs.YthcnfflhejogfaaDoorW.PrintLast Go.Proofs.YthcnfflhejogfaaDoorW.PrintMore
attribute [local go_sem] max2_int min2_int max_two min_two max_three min_three max_four min_four   -- for this text's walks alone
set_option linter.unusedVariables false
set_option linter.unusedSimpArgs false
def sennitlaw21_HunkTells.f (k : Nat) (l0 : List (S57)) (a1 : Int) (a2 : Bool) : Option (Bool) := (sennitlaw21_awake.f k).bind fun t101 => ((sennitref21_Few.f k l0).bind fun t102 => (if t102 = true then ((hunk_Hunks.f l0 a1 a2).bind fun bt103 => ((sennitref21_Hunks.f k l0 a1 a2).bind fun bt107 => (if t101 = true then (if bt103.2 = bt107.2 then ((sennitref21_Same.f k bt103.1 bt107.1).bind fun t111 => (some t111)) else (some false)) else (some false)))) else (some t101)))
set_option maxHeartbeats 8000000 in
set_option maxRecDepth 100000 in
theorem sennitlaw21_HunkTells.calls (k : Nat) (A0 : Option Addr) (c0 : Nat) (l0 : List (S57)) (a1 : Int) (a2 : Bool) (r : Bool) (w : World) (hr0 : Kd.C k57 w A0 l0.length l0) (hc0 : l0.length ≤ c0) (h : sennitlaw21_HunkTells.f k l0 a1 a2 = some r) (HMX : Aside0 (MaxAt w) := by exact ⟨MaxAt.go HMX (by repeat (first | (with_reducible first | exact HB.out | apply below_alloc | apply pw_below_drewN | apply below_drew1) | exact HB.out))⟩) :
    Calls Tryd.prog 8 #[.slice A0 l0.length c0, .int .i64 a1, .bool a2] w fun e w' => e = .returned (.bool r) ∧ Below w.heap.size w w' := by
  have HR0 := Aside0.mk hr0
  have HC0 := Aside0.mk hc0
  clear hr0 hc0
  have HB := Aside0.mk (Below.refl w.heap.size w)
  have H : ((sennitlaw21_awake.f k).bind fun t101 => ((sennitref21_Few.f k l0).bind fun t102 => (if t102 = true then ((hunk_Hunks.f l0 a1 a2).bind fun bt103 => ((sennitref21_Hunks.f k l0 a1 a2).bind fun bt107 => (if t101 = true then (if bt103.2 = bt107.2 then ((sennitref21_Same.f k bt103.1 bt107.1).bind fun t111 => (some t111)) else (some false)) else (some false)))) else (some t101)))) = some r := h
  clear h
  replace H := Option.bind_eq_some_iff.mp H
  obtain ⟨t101, A40, H⟩ := H
  replace H : ((sennitref21_Few.f k l0).bind fun t102 => (if t102 = true then ((hunk_Hunks.f l0 a1 a2).bind fun bt103 => ((sennitref21_Hunks.f k l0 a1 a2).bind fun bt107 => (if t101 = true then (if bt103.2 = bt107.2 then ((sennitref21_Same.f k bt103.1 bt107.1).bind fun t111 => (some t111)) else (some false)) else (some false)))) else (some t101))) = some r := H
  have A4 := Aside0.mk A40
  clear A40
  replace H := Option.bind_eq_some_iff.mp H
  obtain ⟨t102, A50, H⟩ := H
  replace H : (if t102 = true then ((hunk_Hunks.f l0 a1 a2).bind fun bt103 => ((sennitref21_Hunks.f k l0 a1 a2).bind fun bt107 => (if t101 = true then (if bt103.2 = bt107.2 then ((sennitref21_Same.f k bt103.1 bt107.1).bind fun t111 => (some t111)) else (some false)) else (some false)))) else (some t101)) = some r := H
  have A5 := Aside0.mk A50
  clear A50
  by_cases c6 : t102 = true
  · subst c6
    have H1 : ((hunk_Hunks.f l0 a1 a2).bind fun bt103 => ((sennitref21_Hunks.f k l0 a1 a2).bind fun bt107 => (if t101 = true then (if bt103.2 = bt107.2 then ((sennitref21_Same.f k bt103.1 bt107.1).bind fun t111 => (some t111)) else (some false)) else (some false)))) = some r := by rw [if_pos rfl] at H; exact H
    clear H
    have H := H1
    clear H1
    replace H := Option.bind_eq_some_iff.mp H
    obtain ⟨⟨t103, t106⟩, A70, H⟩ := H
    replace H : ((sennitref21_Hunks.f k l0 a1 a2).bind fun bt107 => (if t101 = true then (if t106 = bt107.2 then ((sennitref21_Same.f k t103 bt107.1).bind fun t111 => (some t111)) else (some false)) else (some false))) = some r := H
    have A7 := Aside0.mk A70
    clear A70
    replace H := Option.bind_eq_some_iff.mp H
    obtain ⟨⟨t107, t110⟩, A80, H⟩ := H
    replace H : (if t101 = true then (if t106 = t110 then ((sennitref21_Same.f k t103 t107).bind fun t111 => (some t111)) else (some false)) else (some false)) = some r := H
    have A8 := Aside0.mk A80
    clear A80
    by_cases c9 : t101 = true
    · subst c9
      have H1 : (if t106 = t110 then ((sennitref21_Same.f k t103 t107).bind fun t111 => (some t111)) else (some false)) = some r := by rw [if_pos rfl] at H; exact H
      clear H
      have H := H1
      clear H1
      by_cases c10 : t106 = t110
      · rw [if_pos c10] at H
        have c10b0 : (t106 == t110) = true := beq_iff_eq.mpr c10
        have c10b1 : (t106 != t110) = false := bne_eq_false_iff_eq.mpr c10
        clear c10
        replace H := Option.bind_eq_some_iff.mp H
        obtain ⟨t111, A110, H⟩ := H
        replace H : (some t111) = some r := H
        have A11 := Aside0.mk A110
        clear A110
        obtain rfl := Option.some.inj H
        go_enter Tryd.func8, Tryd.ntmps8
        go_wp2_with (first | ((with_reducible refine gate_callee (f := 26) rfl ?_); refine goesL_ (some 12) rfl rfl Tryd.func26 (by kernel_rfl) rfl #[] rfl (by (try simp only [List.map_toArray, List.map_cons, List.map_nil]); first | done | rfl | (simp only [List.length_drop, List.length_take]; rfl)) ?_; (with_reducible refine (sennitlaw21_awake.calls k  true _ A4.out).mono ?_); rintro e w12 ⟨rfl, hb⟩; refine ⟨_, rfl, ?_⟩; have n0_ := Aside0.mk (below_step (by repeat (first | (with_reducible first | exact HB.out | apply below_alloc | apply pw_below_drewN | apply below_drew1) | exact HB.out)) hb); clear HB; have HB := n0_; clear n0_; (try clear hb); (try clear hb2); (try clear hk); (try clear hi)) | ((with_reducible refine gate_callee (f := 27) rfl ?_); refine goesL_ (some 14) rfl rfl Tryd.func27 (by kernel_rfl) rfl #[.slice A0 l0.length c0] rfl (by (try simp only [List.map_toArray, List.map_cons, List.map_nil]); first | done | rfl | (simp only [List.length_drop, List.length_take]; rfl)) ?_; (with_reducible refine (sennitref21_Few.calls k _ _ l0 true _ ?side1 ?side2 A5.out).mono ?_); (case side1 => repeat (first | exact (Kd.C_below HR0.out HB.out) | (with_reducible refine Kd.C_alloc ?_ _) | (with_reducible refine Kd.C_drewN ?_ _) | (with_reducible refine Kd.C_drew ?_))); (case side2 => exact HC0.out); rintro e w' ⟨rfl, ⟨nd, rfl⟩⟩; refine ⟨_, rfl, ?_⟩) | ((with_reducible refine gate_callee (f := 28) rfl ?_); refine goesL_ (some 21) rfl rfl Tryd.func28 (by kernel_rfl) rfl #[.slice A0 l0.length c0, .int .i64 a1, .bool a2] rfl (by (try simp only [List.map_toArray, List.map_cons, List.map_nil]); first | done | rfl | (simp only [List.length_drop, List.length_take]; rfl)) ?_; (with_reducible refine (hunk_Hunks.calls (fun k_ => k_ < w.heap.size) _ _ l0 a1 a2 t103 t106 _ ?side1 A7.out).mono ?_); (case side1 => exact Kd.V_mk HC0.out (Kd.F_below (Kd.C_F k57_heap HR0.out) (by repeat (first | (with_reducible first | exact HB.out | apply below_alloc | apply pw_below_drewN | apply below_drew1) | exact HB.out)))); rintro e w13 ⟨v104, rfl, ho0, hb⟩; refine ⟨_, rfl, ?_⟩; have n0_ := Aside0.mk (Kd.N_lower (Kd.N_mono (ok' := fun k_ => True) ho0 (fun k_ hk_ => trivial)) (below_size (by repeat (first | (with_reducible first | exact HB.out | apply below_alloc | apply pw_below_drewN | apply below_drew1) | exact HB.out)))); have n1_ := Aside0.mk (below_step (by repeat (first | (with_reducible first | exact HB.out | apply below_alloc | apply pw_below_drewN | apply below_drew1) | exact HB.out)) hb); clear HB; have HO105 := n0_; have HB := n1_; clear n0_ n1_; (try clear hb); (try clear hb2); (try clear hk); (try clear hi); (try clear ho0)) | ((with_reducible refine gate_callee (f := 24) rfl ?_); refine goesL_ (some 28) rfl rfl Tryd.func24 (by kernel_rfl) rfl #[.slice A0 l0.length c0, .int .i64 a1, .bool a2] rfl (by (try simp only [List.map_toArray, List.map_cons, List.map_nil]); first | done | rfl | (simp only [List.length_drop, List.length_take]; rfl)) ?_; (with_reducible refine (sennitref21_Hunks.calls k (fun k_ => k_ < w.heap.size) _ _ l0 a1 a2 t107 t110 _ ?side1 A8.out).mono ?_); (case side1 => exact Kd.V_mk HC0.out (Kd.F_below (Kd.C_F k57_heap HR0.out) (by repeat (first | (with_reducible first | exact HB.out | apply below_alloc | apply pw_below_drewN | apply below_drew1) | exact HB.out)))); rintro e w14 ⟨v108, rfl, ho0, hb⟩; refine ⟨_, rfl, ?_⟩; have n0_ := Aside0.mk (Kd.N_elder' (by (with_reducible repeat (first | apply Kd.N_alloc | apply Kd.N_drewN | apply Kd.N_drew)); exact HO105.out) (Kd.N_base (by first | exact ho0 | exact Kd.S_N ho0)) hb); have n1_ := Aside0.mk (Kd.N_lower (Kd.N_mono (ok' := fun k_ => some k_ ≠ (v104 : Value).ownBlock) ho0 (fun k_ hk_ => Or.elim hk_ (fun hs_ => fun e_ => Nat.not_le.2 hs_ (Kd.N_base HO105.out k_ e_.symm)) (fun hn_ => (Kd.fresh' (Kd.N_lt (by (with_reducible repeat (first | apply Kd.N_alloc | apply Kd.N_drewN | apply Kd.N_drew)); exact HO105.out)) k_ hn_)))) (below_size (by repeat (first | (with_reducible first | exact HB.out | apply below_alloc | apply pw_below_drewN | apply below_drew1) | exact HB.out)))); have n2_ := Aside0.mk (below_step (by repeat (first | (with_reducible first | exact HB.out | apply below_alloc | apply pw_below_drewN | apply below_drew1) | exact HB.out)) hb); clear HO105; clear HB; have HO105 := n0_; have HO109 := n1_; have HB := n2_; clear n0_ n1_ n2_; (try clear hb); (try clear hb2); (try clear hk); (try clear hi); (try clear ho0); obtain ⟨Ao15, co15, eo15⟩ := Kd.N_slice HO105.out; subst eo15; obtain ⟨Ao16, co16, eo16⟩ := Kd.N_slice HO109.out; subst eo16) | (go_at_call 29; (with_reducible refine (sennitref21_Same.calls k _ _ t103 _ _ t107 t111 _ ?side1 ?side2 ?side3 ?side4 A11.out).mono ?_); (case side1 => repeat (first | exact (Kd.N_reads' HO105.out).2.2 | (with_reducible refine Kd.C_alloc ?_ _) | (with_reducible refine Kd.C_drewN ?_ _) | (with_reducible refine Kd.C_drew ?_))); (case side2 => exact (Kd.N_reads' HO105.out).2.1); (case side3 => repeat (first | exact (Kd.N_reads' HO109.out).2.2 | (with_reducible refine Kd.C_alloc ?_ _) | (with_reducible refine Kd.C_drewN ?_ _) | (with_reducible refine Kd.C_drew ?_))); (case side4 => exact (Kd.N_reads' HO109.out).2.1); rintro e w17 ⟨rfl, hb⟩; have n0_ := Aside0.mk (Kd.N_below (by (with_reducible repeat (first | apply Kd.N_alloc | apply Kd.N_drewN | apply Kd.N_drew)); exact HO105.out) hb); have n1_ := Aside0.mk (Kd.N_below (by (with_reducible repeat (first | apply Kd.N_alloc | apply Kd.N_drewN | apply Kd.N_drew)); exact HO109.out) hb); have n2_ := Aside0.mk (below_step (by repeat (first | (with_reducible first | exact HB.out | apply below_alloc | apply pw_below_drewN | apply below_drew1) | exact HB.out)) hb); clear HO105; clear HO109; clear HB; have HO105 := n0_; have HO109 := n1_; have HB := n2_; clear n0_ n1_ n2_; (try clear hb); (try clear hb2); (try clear hk); (try clear hi)))
        go_ret
        exact ⟨by first | rfl | (simp [errW_none, errW_some] <;> rfl) | (simp [*, errW_none, errW_some] <;> rfl), by repeat (first | (with_reducible first | exact HB.out | apply below_alloc | apply pw_below_drewN | apply below_drew1) | exact HB.out)⟩
      · rw [if_neg c10] at H
        have c10b0 : (t106 == t110) = false := beq_eq_false_iff_ne.mpr c10
        have c10b1 : (t106 != t110) = true := bne_iff_ne.mpr c10
        obtain rfl := Option.some.inj H
        go_enter Tryd.func8, Tryd.ntmps8
        go_wp2_with (first | ((with_reducible refine gate_callee (f := 26) rfl ?_); refine goesL_ (some 12) rfl rfl Tryd.func26 (by kernel_rfl) rfl #[] rfl (by (try simp only [List.map_toArray, List.map_cons, List.map_nil]); first | done | rfl | (simp only [List.length_drop, List.length_take]; rfl)) ?_; (with_reducible refine (sennitlaw21_awake.calls k  true _ A4.out).mono ?_); rintro e w18 ⟨rfl, hb⟩; refine ⟨_, rfl, ?_⟩; have n0_ := Aside0.mk (below_step (by repeat (first | (with_reducible first | exact HB.out | apply below_alloc | apply pw_below_drewN | apply below_drew1) | exact HB.out)) hb); clear HB; have HB := n0_; clear n0_; (try clear hb); (try clear hb2); (try clear hk); (try clear hi)) | ((with_reducible refine gate_callee (f := 27) rfl ?_); refine goesL_ (some 14) rfl rfl Tryd.func27 (by kernel_rfl) rfl #[.slice A0 l0.length c0] rfl (by (try simp only [List.map_toArray, List.map_cons, List.map_nil]); first | done | rfl | (simp only [List.length_drop, List.length_take]; rfl)) ?_; (with_reducible refine (sennitref21_Few.calls k _ _ l0 true _ ?side1 ?side2 A5.out).mono ?_); (case side1 => repeat (first | exact (Kd.C_below HR0.out HB.out) | (with_reducible refine Kd.C_alloc ?_ _) | (with_reducible refine Kd.C_drewN ?_ _) | (with_reducible refine Kd.C_drew ?_))); (case side2 => exact HC0.out); rintro e w' ⟨rfl, ⟨nd, rfl⟩⟩; refine ⟨_, rfl, ?_⟩) | ((with_reducible refine gate_callee (f := 28) rfl ?_); refine goesL_ (some 21) rfl rfl Tryd.func28 (by kernel_rfl) rfl #[.slice A0 l0.length c0, .int .i64 a1, .bool a2] rfl (by (try simp only [List.map_toArray, List.map_cons, List.map_nil]); first | done | rfl | (simp only [List.length_drop, List.length_take]; rfl)) ?_; (with_reducible refine (hunk_Hunks.calls (fun k_ => k_ < w.heap.size) _ _ l0 a1 a2 t103 t106 _ ?side1 A7.out).mono ?_); (case side1 => exact Kd.V_mk HC0.out (Kd.F_below (Kd.C_F k57_heap HR0.out) (by repeat (first | (with_reducible first | exact HB.out | apply below_alloc | apply pw_below_drewN | apply below_drew1) | exact HB.out)))); rintro e w19 ⟨v104, rfl, ho0, hb⟩; refine ⟨_, rfl, ?_⟩; have n0_ := Aside0.mk (Kd.N_lower (Kd.N_mono (ok' := fun k_ => True) ho0 (fun k_ hk_ => trivial)) (below_size (by repeat (first | (with_reducible first | exact HB.out | apply below_alloc | apply pw_below_drewN | apply below_drew1) | exact HB.out)))); have n1_ := Aside0.mk (below_step (by repeat (first | (with_reducible first | exact HB.out | apply below_alloc | apply pw_below_drewN | apply below_drew1) | exact HB.out)) hb); clear HB; have HO105 := n0_; have HB := n1_; clear n0_ n1_; (try clear hb); (try clear hb2); (try clear hk); (try clear hi); (try clear ho0)) | ((with_reducible refine gate_callee (f := 24) rfl ?_); refine goesL_ (some 28) rfl rfl Tryd.func24 (by kernel_rfl) rfl #[.slice A0 l0.length c0, .int .i64 a1, .bool a2] rfl (by (try simp only [List.map_toArray, List.map_cons, List.map_nil]); first | done | rfl | (simp only [List.length_drop, List.length_take]; rfl)) ?_; (with_reducible refine (sennitref21_Hunks.calls k (fun k_ => k_ < w.heap.size) _ _ l0 a1 a2 t107 t110 _ ?side1 A8.out).mono ?_); (case side1 => exact Kd.V_mk HC0.out (Kd.F_below (Kd.C_F k57_heap HR0.out) (by repeat (first | (with_reducible first | exact HB.out | apply below_alloc | apply pw_below_drewN | apply below_drew1) | exact HB.out)))); rintro e w20 ⟨v108, rfl, ho0, hb⟩; refine ⟨_, rfl, ?_⟩; have n0_ := Aside0.mk (Kd.N_elder' (by (with_reducible repeat (first | apply Kd.N_alloc | apply Kd.N_drewN | apply Kd.N_drew)); exact HO105.out) (Kd.N_base (by first | exact ho0 | exact Kd.S_N ho0)) hb); have n1_ := Aside0.mk (Kd.N_lower (Kd.N_mono (ok' := fun k_ => some k_ ≠ (v104 : Value).ownBlock) ho0 (fun k_ hk_ => Or.elim hk_ (fun hs_ => fun e_ => Nat.not_le.2 hs_ (Kd.N_base HO105.out k_ e_.symm)) (fun hn_ => (Kd.fresh' (Kd.N_lt (by (with_reducible repeat (first | apply Kd.N_alloc | apply Kd.N_drewN | apply Kd.N_drew)); exact HO105.out)) k_ hn_)))) (below_size (by repeat (first | (with_reducible first | exact HB.out | apply below_alloc | apply pw_below_drewN | apply below_drew1) | exact HB.out)))); have n2_ := Aside0.mk (below_step (by repeat (first | (with_reducible first | exact HB.out | apply below_alloc | apply pw_below_drewN | apply below_drew1) | exact HB.out)) hb); clear HO105; clear HB; have HO105 := n0_; have HO109 := n1_; have HB := n2_; clear n0_ n1_ n2_; (try clear hb); (try clear hb2); (try clear hk); (try clear hi); (try clear ho0)))
        go_ret
        exact ⟨by first | rfl | (simp [errW_none, errW_some] <;> rfl) | (simp [*, errW_none, errW_some] <;> rfl), by repeat (first | (with_reducible first | exact HB.out | apply below_alloc | apply pw_below_drewN | apply below_drew1) | exact HB.out)⟩
    · replace c9 := Bool.eq_false_iff.mpr c9
      subst c9
      have H1 : (some false) = some r := by rw [if_neg (show ¬ (false = true) by decide)] at H; exact H
      clear H
      have H := H1
      clear H1
      obtain rfl := Option.some.inj H
      go_enter Tryd.func8, Tryd.ntmps8
      go_wp2_with (first | ((with_reducible refine gate_callee (f := 26) rfl ?_); refine goesL_ (some 12) rfl rfl Tryd.func26 (by kernel_rfl) rfl #[] rfl (by (try simp only [List.map_toArray, List.map_cons, List.map_nil]); first | done | rfl | (simp only [List.length_drop, List.length_take]; rfl)) ?_; (with_reducible refine (sennitlaw21_awake.calls k  false _ A4.out).mono ?_); rintro e w21 ⟨rfl, hb⟩; refine ⟨_, rfl, ?_⟩; have n0_ := Aside0.mk (below_step (by repeat (first | (with_reducible first | exact HB.out | apply below_alloc | apply pw_below_drewN | apply below_drew1) | exact HB.out)) hb); clear HB; have HB := n0_; clear n0_; (try clear hb); (try clear hb2); (try clear hk); (try clear hi)) | ((with_reducible refine gate_callee (f := 27) rfl ?_); refine goesL_ (some 14) rfl rfl Tryd.func27 (by kernel_rfl) rfl #[.slice A0 l0.length c0] rfl (by (try simp only [List.map_toArray, List.map_cons, List.map_nil]); first | done | rfl | (simp only [List.length_drop, List.length_take]; rfl)) ?_; (with_reducible refine (sennitref21_Few.calls k _ _ l0 true _ ?side1 ?side2 A5.out).mono ?_); (case side1 => repeat (first | exact (Kd.C_below HR0.out HB.out) | (with_reducible refine Kd.C_alloc ?_ _) | (with_reducible refine Kd.C_drewN ?_ _) | (with_reducible refine Kd.C_drew ?_))); (case side2 => exact HC0.out); rintro e w' ⟨rfl, ⟨nd, rfl⟩⟩; refine ⟨_, rfl, ?_⟩) | ((with_reducible refine gate_callee (f := 28) rfl ?_); refine goesL_ (some 21) rfl rfl Tryd.func28 (by kernel_rfl) rfl #[.slice A0 l0.length c0, .int .i64 a1, .bool a2] rfl (by (try simp only [List.map_toArray, List.map_cons, List.map_nil]); first | done | rfl | (simp only [List.length_drop, List.length_take]; rfl)) ?_; (with_reducible refine (hunk_Hunks.calls (fun k_ => k_ < w.heap.size) _ _ l0 a1 a2 t103 t106 _ ?side1 A7.out).mono ?_); (case side1 => exact Kd.V_mk HC0.out (Kd.F_below (Kd.C_F k57_heap HR0.out) (by repeat (first | (with_reducible first | exact HB.out | apply below_alloc | apply pw_below_drewN | apply below_drew1) | exact HB.out)))); rintro e w22 ⟨v104, rfl, ho0, hb⟩; refine ⟨_, rfl, ?_⟩; have n0_ := Aside0.mk (Kd.N_lower (Kd.N_mono (ok' := fun k_ => True) ho0 (fun k_ hk_ => trivial)) (below_size (by repeat (first | (with_reducible first | exact HB.out | apply below_alloc | apply pw_below_drewN | apply below_drew1) | exact HB.out)))); have n1_ := Aside0.mk (below_step (by repeat (first | (with_reducible first | exact HB.out | apply below_alloc | apply pw_below_drewN | apply below_drew1) | exact HB.out)) hb); clear HB; have HO105 := n0_; have HB := n1_; clear n0_ n1_; (try clear hb); (try clear hb2); (try clear hk); (try clear hi); (try clear ho0)) | ((with_reducible refine gate_callee (f := 24) rfl ?_); refine goesL_ (some 28) rfl rfl Tryd.func24 (by kernel_rfl) rfl #[.slice A0 l0.length c0, .int .i64 a1, .bool a2] rfl (by (try simp only [List.map_toArray, List.map_cons, List.map_nil]); first | done | rfl | (simp only [List.length_drop, List.length_take]; rfl)) ?_; (with_reducible refine (sennitref21_Hunks.calls k (fun k_ => k_ < w.heap.size) _ _ l0 a1 a2 t107 t110 _ ?side1 A8.out).mono ?_); (case side1 => exact Kd.V_mk HC0.out (Kd.F_below (Kd.C_F k57_heap HR0.out) (by repeat (first | (with_reducible first | exact HB.out | apply below_alloc | apply pw_below_drewN | apply below_drew1) | exact HB.out)))); rintro e w23 ⟨v108, rfl, ho0, hb⟩; refine ⟨_, rfl, ?_⟩; have n0_ := Aside0.mk (Kd.N_elder' (by (with_reducible repeat (first | apply Kd.N_alloc | apply Kd.N_drewN | apply Kd.N_drew)); exact HO105.out) (Kd.N_base (by first | exact ho0 | exact Kd.S_N ho0)) hb); have n1_ := Aside0.mk (Kd.N_lower (Kd.N_mono (ok' := fun k_ => some k_ ≠ (v104 : Value).ownBlock) ho0 (fun k_ hk_ => Or.elim hk_ (fun hs_ => fun e_ => Nat.not_le.2 hs_ (Kd.N_base HO105.out k_ e_.symm)) (fun hn_ => (Kd.fresh' (Kd.N_lt (by (with_reducible repeat (first | apply Kd.N_alloc | apply Kd.N_drewN | apply Kd.N_drew)); exact HO105.out)) k_ hn_)))) (below_size (by repeat (first | (with_reducible first | exact HB.out | apply below_alloc | apply pw_below_drewN | apply below_drew1) | exact HB.out)))); have n2_ := Aside0.mk (below_step (by repeat (first | (with_reducible first | exact HB.out | apply below_alloc | apply pw_below_drewN | apply below_drew1) | exact HB.out)) hb); clear HO105; clear HB; have HO105 := n0_; have HO109 := n1_; have HB := n2_; clear n0_ n1_ n2_; (try clear hb); (try clear hb2); (try clear hk); (try clear hi); (try clear ho0)))
      go_ret
      exact ⟨by first | rfl | (simp [errW_none, errW_some] <;> rfl) | (simp [*, errW_none, errW_some] <;> rfl), by repeat (first | (with_reducible first | exact HB.out | apply below_alloc | apply pw_below_drewN | apply below_drew1) | exact HB.out)⟩
  · replace c6 := Bool.eq_false_iff.mpr c6
    subst c6
    have H1 : (some t101) = some r := by rw [if_neg (show ¬ (false = true) by decide)] at H; exact H
    clear H
    have H := H1
    clear H1
    obtain rfl := Option.some.inj H
    go_enter Tryd.func8, Tryd.ntmps8
    go_wp2_with (first | ((with_reducible refine gate_callee (f := 26) rfl ?_); refine goesL_ (some 12) rfl rfl Tryd.func26 (by kernel_rfl) rfl #[] rfl (by (try simp only [List.map_toArray, List.map_cons, List.map_nil]); first | done | rfl | (simp only [List.length_drop, List.length_take]; rfl)) ?_; (with_reducible refine (sennitlaw21_awake.calls k  t101 _ A4.out).mono ?_); rintro e w24 ⟨rfl, hb⟩; refine ⟨_, rfl, ?_⟩; have n0_ := Aside0.mk (below_step (by repeat (first | (with_reducible first | exact HB.out | apply below_alloc | apply pw_below_drewN | apply below_drew1) | exact HB.out)) hb); clear HB; have HB := n0_; clear n0_; (try clear hb); (try clear hb2); (try clear hk); (try clear hi)) | ((with_reducible refine gate_callee (f := 27) rfl ?_); refine goesL_ (some 14) rfl rfl Tryd.func27 (by kernel_rfl) rfl #[.slice A0 l0.length c0] rfl (by (try simp only [List.map_toArray, List.map_cons, List.map_nil]); first | done | rfl | (simp only [List.length_drop, List.length_take]; rfl)) ?_; (with_reducible refine (sennitref21_Few.calls k _ _ l0 false _ ?side1 ?side2 A5.out).mono ?_); (case side1 => repeat (first | exact (Kd.C_below HR0.out HB.out) | (with_reducible refine Kd.C_alloc ?_ _) | (with_reducible refine Kd.C_drewN ?_ _) | (with_reducible refine Kd.C_drew ?_))); (case side2 => exact HC0.out); rintro e w' ⟨rfl, ⟨nd, rfl⟩⟩; refine ⟨_, rfl, ?_⟩))
    go_ret
    exact ⟨by first | rfl | (simp [errW_none, errW_some] <;> rfl) | (simp [*, errW_none, errW_some] <;> rfl), by repeat (first | (with_reducible first | exact HB.out | apply below_alloc | apply pw_below_drewN | apply below_drew1) | exact HB.out)⟩

end Go.Proofs.YthcnfflhejogfaaDoor.X
-- part XHr6
namespace Go.Proofs.YthcnfflhejogfaaDoor.X
open Go.RowKit Go.Proofs.YthcnfflhejogfaaDoorW.PrintWords Go.Proofs.YthcnfflhejogfaaDoorW.PrintLast Go.Proofs.YthcnfflhejogfaaDoorW.PrintMore
set_option linter.unusedVariables false
set_option linter.unusedSimpArgs false
abbrev ApiRow := S57
theorem apiRow_ext {x y : ApiRow} (h0 : x.f0 = y.f0) (h1 : x.f1 = y.f1) : x = y := by
  cases x; cases y; cases h0; cases h1; rfl
instance apiRowDec : DecidableEq ApiRow := fun x y => decidable_of_iff (x.f0 = y.f0 ∧ x.f1 = y.f1) ⟨fun h => apiRow_ext h.1 h.2, fun h => by rw [h]; exact ⟨rfl, rfl⟩⟩
theorem index45_cases (u : List UInt8) : (¬ (45 : UInt8) ∈ u ∧ Lib.indexByte u 45 = -1) ∨ ((45 : UInt8) ∈ u ∧ 0 ≤ Lib.indexByte u 45) := by
  induction u with
  | nil => left; simp [Lib.indexByte]
  | cons x xs ih =>
    simp only [Lib.indexByte, List.mem_cons]
    by_cases e : x = 45
    · right; simp [e]
    · have e' : (x == 45) = false := by simp [e]
      have e2 : ¬ (45 : UInt8) = x := fun h => e h.symm
      rw [e']
      rcases ih with ⟨h1, h2⟩ | ⟨h1, h2⟩
      · left; simp [h1, h2, e2]
      · right
        refine ⟨.inr h1, ?_⟩
        rw [if_neg (by decide), if_neg (by simp; omega)]
        omega
theorem index45 (u : List UInt8) : decide (0 ≤ Lib.indexByte u 45) = decide ((45 : UInt8) ∈ u) := by
  rw [decide_eq_decide]
  rcases index45_cases u with ⟨h1, h2⟩ | ⟨h1, h2⟩
  · simp [h1, h2]
  · simp [h1, h2]
theorem byte45 (c : UInt8) : ((c.toNat : Int) = 45) ↔ c = 45 := by
  constructor
  · intro h
    have : c.toNat = 45 := by omega
    exact UInt8.toNat_inj.1 this
  · rintro rfl; rfl
theorem lostB_mem (s : ByteArray) : lostB s = decide ((45 : UInt8) ∈ s.data.toList) := index45 _
theorem ref_Lost20 (s t : ByteArray) (hs : s.size ≤ 1000000000) : Gives (fun k => sennitref20_Lost.f k s t) (lostB s) := by
  have hl : ∀ (r i : Nat), i + r = s.size → Gives (fun k => sennitref20_Lost.l0 k (i : Int) s t) (decide ((45 : UInt8) ∈ s.data.toList.drop i)) := by
    intro r
    induction r with
    | zero =>
      intro i hi
      refine Gives.of fun k => ?_
      show sennitref20_Lost.l0 (k + 1) (i : Int) s t = _
      rw [sennitref20_Lost.l0, if_neg (by omega), List.drop_of_length_le (by rw [← sizeLen]; omega)]
      simp
    | succ r ih =>
      intro i hi
      have hil : i < s.size := by omega
      have hd := dropCons (l := s.data.toList) (i := i) (by rw [← sizeLen]; exact hil)
      rw [hd]
      by_cases e : s.data.toList[i]'(by rw [← sizeLen]; exact hil) = 45
      · refine Gives.of fun k => ?_
        show sennitref20_Lost.l0 (k + 1) (i : Int) s t = _
        rw [sennitref20_Lost.l0, if_pos (by omega), if_pos (by omega), btN hil, if_pos ((byte45 _).2 e), e]
        simp
      · have e2 : ¬ (45 : UInt8) = s.data.toList[i]'(by rw [← sizeLen]; exact hil) := fun h => e h.symm
        refine ((ih (i + 1) (by omega)).eq (by simp only [List.mem_cons, e2, false_or])).step fun k => ?_
        show sennitref20_Lost.l0 (k + 1) (i : Int) s t = _
        rw [sennitref20_Lost.l0, if_pos (by omega), if_pos (by omega), btN hil, if_neg (fun h => e ((byte45 _).1 h)), gw1 (by omega)]
  rw [lostB_mem]
  exact (hl s.size 0 (by omega)).same fun k => rfl
theorem ref_Of20 (s t : ByteArray) (i : Int) (hs : s.size ≤ 1000000000) : Gives (fun k => sennitref20_Of.f k s t i) (ofB i s) := by
  refine Gives.last0 (ref_Lost20 s t hs) fun k hk => ?_
  show sennitref20_Of.f k s t i = _
  rw [sennitref20_Of.f]
  by_cases h0 : i < 0
  · rw [if_pos h0, ofB, decide_eq_false (show ¬ 0 ≤ i by omega)]; rfl
  · rw [if_neg h0]
    by_cases h1 : i ≥ (s.size : Int)
    · rw [if_pos h1, ofB, decide_eq_false (show ¬ i < (s.size : Int) by omega)]; simp
    · rw [if_neg h1, if_pos (by omega), if_pos (by omega), hk, Option.bind_some, ofB, decide_eq_true (show 0 ≤ i by omega), decide_eq_true (show i < (s.size : Int) by omega), Bool.true_and, Bool.true_and]
      by_cases h2 : bt s i = 45
      · rw [if_pos h2, decide_eq_true h2, Bool.true_or]
      · rw [if_neg h2, decide_eq_false h2, Bool.false_or]
        by_cases h3 : bt s i = 32
        · rw [if_pos h3, decide_eq_true h3, Bool.true_and]
        · rw [if_neg h3, decide_eq_false h3, Bool.false_and]
section
variable {R : List ApiRow}
theorem ref_Column20 (i : Int) (hR : R.length ≤ 100000) (hz : ∀ x ∈ R, x.f0.size ≤ 1000000000) : Gives (fun k => sennitref20_Column.f k R i) ((R.filter (fun x => ofB i x.f0)).map (·.f1)) := by
  have hl : ∀ (r a : Nat) (out : List ByteArray), a + r = R.length → out.length ≤ a → Gives (fun k => sennitref20_Column.l0 k R i out (a : Int)) (out ++ ((R.drop a).filter (fun x => ofB i x.f0)).map (·.f1)) := by
    intro r
    induction r with
    | zero =>
      intro a out ha ho
      refine Gives.of fun k => ?_
      show sennitref20_Column.l0 (k + 1) R i out (a : Int) = _
      rw [sennitref20_Column.l0, if_neg (by omega), List.drop_of_length_le (by omega)]
      simp
    | succ r ih =>
      intro a out ha ho
      have haR : a < R.length := by omega
      have e : rd_T57 R (a : Int) = R[a] := getN haR
      have ho20 := ref_Of20 R[a].f0 R[a].f1 i (hz _ (List.getElem_mem _))
      rw [dropCons haR]
      cases hb : ofB i R[a].f0 with
      | true =>
        rw [List.filter_cons_of_pos (by exact hb), List.map_cons]
        have := ih (a + 1) (out ++ [R[a].f1]) (by omega) (by simp; omega)
        rw [List.append_assoc, List.singleton_append] at this
        refine Gives.call ho20 this fun k hk => ?_
        show sennitref20_Column.l0 (k + 1) R i out (a : Int) = _
        have hk' : sennitref20_Of.f k R[a].f0 R[a].f1 i = some true := by rw [← hb]; exact hk
        rw [sennitref20_Column.l0, if_pos (by omega), if_pos (by omega), e, hk', Option.bind_some, if_pos rfl, if_pos (by omega), gw1 (by omega)]
      | false =>
        rw [List.filter_cons_of_neg (by rw [hb]; decide)]
        refine Gives.call ho20 (ih (a + 1) out (by omega) (by omega)) fun k hk => ?_
        show sennitref20_Column.l0 (k + 1) R i out (a : Int) = _
        have hk' : sennitref20_Of.f k R[a].f0 R[a].f1 i = some false := by rw [← hb]; exact hk
        rw [sennitref20_Column.l0, if_pos (by omega), if_pos (by omega), e, hk', Option.bind_some, if_neg (by decide), gw1 (by omega)]
  have := hl R.length 0 [] (by omega) (by simp)
  exact this.same fun k => rfl
theorem ref_Result20 (hR : R.length ≤ 100000) (hz : ∀ x ∈ R, x.f0.size ≤ 1000000000) : Gives (fun k => sennitref20_Result.f k R) ((R.filter (fun x => !lostB x.f0)).map (·.f1)) := by
  have hl : ∀ (r a : Nat) (out : List ByteArray), a + r = R.length → out.length ≤ a → Gives (fun k => sennitref20_Result.l0 k R out (a : Int)) (out ++ ((R.drop a).filter (fun x => !lostB x.f0)).map (·.f1)) := by
    intro r
    induction r with
    | zero =>
      intro a out ha ho
      refine Gives.of fun k => ?_
      show sennitref20_Result.l0 (k + 1) R out (a : Int) = _
      rw [sennitref20_Result.l0, if_neg (by omega), List.drop_of_length_le (by omega)]
      simp
    | succ r ih =>
      intro a out ha ho
      have haR : a < R.length := by omega
      have e : rd_T57 R (a : Int) = R[a] := getN haR
      have ho20 := ref_Lost20 R[a].f0 R[a].f1 (hz _ (List.getElem_mem _))
      rw [dropCons haR]
      cases hb : lostB R[a].f0 with
      | false =>
        rw [List.filter_cons_of_pos (by rw [hb]; rfl), List.map_cons]
        have := ih (a + 1) (out ++ [R[a].f1]) (by omega) (by simp; omega)
        rw [List.append_assoc, List.singleton_append] at this
        refine Gives.call ho20 this fun k hk => ?_
        show sennitref20_Result.l0 (k + 1) R out (a : Int) = _
        have hk' : sennitref20_Lost.f k R[a].f0 R[a].f1 = some false := by rw [← hb]; exact hk
        rw [sennitref20_Result.l0, if_pos (by omega), if_pos (by omega), e, hk', Option.bind_some, if_neg (by decide), if_pos (by omega), gw1 (by omega)]
      | true =>
        rw [List.filter_cons_of_neg (by rw [hb]; decide)]
        refine Gives.call ho20 (ih (a + 1) out (by omega) (by omega)) fun k hk => ?_
        show sennitref20_Result.l0 (k + 1) R out (a : Int) = _
        have hk' : sennitref20_Lost.f k R[a].f0 R[a].f1 = some true := by rw [← hb]; exact hk
        rw [sennitref20_Result.l0, if_pos (by omega), if_pos (by omega), e, hk', Option.bind_some, if_pos rfl, gw1 (by omega)]
  have := hl R.length 0 [] (by omega) (by simp)
  exact this.same fun k => rfl
end
theorem ref_Same19 (a b : List ApiRow) (hm : a.length ≤ 1000000) : Gives (fun k => sennitref19_Same.f k a b) (decide (a = b)) := by
  have hl : a.length = b.length → ∀ (r i : Nat), i + r = a.length → Gives (fun k => sennitref19_Same.l0 k a b (i : Int)) (decide (a.drop i = b.drop i)) := by
    intro hab r
    induction r with
    | zero =>
      intro i hi
      refine Gives.of fun k => ?_
      show sennitref19_Same.l0 (k + 1) a b (i : Int) = _
      rw [sennitref19_Same.l0, if_neg (by omega), List.drop_of_length_le (by omega), List.drop_of_length_le (by omega)]
      simp
    | succ r ih =>
      intro i hi
      have ea : rd_T57 a (i : Int) = a[i] := getN (by omega)
      have eb : rd_T57 b (i : Int) = b[i] := getN (by omega)
      have ha := dropCons (l := a) (i := i) (by omega)
      have hb := dropCons (l := b) (i := i) (by omega)
      have eq : (!((a[i].f0.toList == b[i].f0.toList)) || (!((a[i].f1.toList == b[i].f1.toList)))) = !decide (a[i] = b[i]) := by
        rw [strBeq, strBeq]
        by_cases e1 : a[i].f0 = b[i].f0
        · by_cases e2 : a[i].f1 = b[i].f1
          · have : a[i] = b[i] := apiRow_ext e1 e2
            rw [decide_eq_true e1, decide_eq_true e2, decide_eq_true this]; rfl
          · have : ¬ a[i] = b[i] := fun e => e2 (by rw [e])
            rw [decide_eq_true e1, decide_eq_false e2, decide_eq_false this]; rfl
        · have : ¬ a[i] = b[i] := fun e => e1 (by rw [e])
          rw [decide_eq_false e1, decide_eq_false this]; rfl
      by_cases e : a[i] = b[i]
      · refine ((ih (i + 1) (by omega)).eq ?_).step fun k => ?_
        · simp only [ha, hb, e, List.cons.injEq, true_and]
        · show sennitref19_Same.l0 (k + 1) a b (i : Int) = _
          rw [sennitref19_Same.l0, if_pos (by omega), if_pos (by omega), if_pos (by omega), ea, eb, eq, decide_eq_true e, if_neg (by decide), gw1 (by omega)]
      · refine Gives.of fun k => ?_
        show sennitref19_Same.l0 (k + 1) a b (i : Int) = _
        rw [sennitref19_Same.l0, if_pos (by omega), if_pos (by omega), if_pos (by omega), ea, eb, eq, decide_eq_false e, if_pos (by decide)]
        simp only [ha, hb, e, List.cons.injEq, false_and, decide_false]
  by_cases h : a.length = b.length
  · refine (hl h a.length 0 (by omega)).same fun k => ?_
    show sennitref19_Same.f k a b = _
    rw [sennitref19_Same.f, if_pos (by omega)]; rfl
  · refine Gives.pure fun k => ?_
    show sennitref19_Same.f k a b = _
    have : ¬ a = b := fun e => h (by rw [e])
    rw [sennitref19_Same.f, if_neg (by omega), decide_eq_false this]
end Go.Proofs.YthcnfflhejogfaaDoor.X
-- part XHr7
namespace Go.Proofs.YthcnfflhejogfaaDoor.X
open Go.RowKit Go.Proofs.YthcnfflhejogfaaDoorW.PrintWords Go.Proofs.YthcnfflhejogfaaDoorW.PrintLast Go.Proofs.YthcnfflhejogfaaDoorW.PrintMore
set_option linter.unusedVariables false
set_option linter.unusedSimpArgs false
/-- Few rows, and short ones. -/
def FewR (rows : List RowH) : Prop := rows.length ≤ 40 ∧ ∀ x ∈ rows, x.f0.size ≤ 20 ∧ x.f1.size ≤ 100
def fewRB (rows : List RowH) : Bool := decide (rows.length ≤ 40) && rows.all (fun x => decide (x.f0.size ≤ 20) && decide (x.f1.size ≤ 100))
theorem fewRB_iff {rows : List RowH} (h : fewRB rows = true) : FewR rows := by
  rw [fewRB, Bool.and_eq_true, decide_eq_true_eq, List.all_eq_true] at h
  refine ⟨h.1, fun x hx => ?_⟩
  have := h.2 x hx; rw [Bool.and_eq_true, decide_eq_true_eq, decide_eq_true_eq] at this; exact this
theorem FewR.low {rows : List RowH} (h : FewR rows) : lowB rows = true := lowB_mk (by have := h.1; omega) (fun x hx => by have := h.2 x hx; omega) (fun x hx => by have := h.2 x hx; omega)
theorem ref_FewH_l0 (rows : List RowH) : ∀ (r i k : Nat), i + r = 41 → 2 * r + 2 ≤ k → sennitref21_Few.l0 k rows (i : Int) = some (decide (rows.length ≤ 40) && (rows.drop i).all (fun x => decide (x.f0.size ≤ 20) && decide (x.f1.size ≤ 100)))
  | 0, i, k + 2, hi, hk => by
    rw [sennitref21_Few.l0]
    by_cases h : (i : Int) < rows.length
    · rw [if_pos h, decide_eq_false (show ¬ ((i : Int) < 41) by omega), sennitref21_Few.j1, if_neg (by decide), decide_eq_false (show ¬ ((rows.length : Int) ≤ 40) by omega), decide_eq_false (show ¬ rows.length ≤ 40 by omega)]; rfl
    · rw [if_neg h, sennitref21_Few.j1, if_neg (by decide), List.drop_of_length_le (by omega), List.all_nil, Bool.and_true]
      congr 1
      rw [decide_eq_decide]; omega
  | r + 1, i, k + 2, hi, hk => by
    rw [sennitref21_Few.l0]
    by_cases h : (i : Int) < rows.length
    · have hil : i < rows.length := by omega
      rw [if_pos h, decide_eq_true (show ((i : Int) < 41) by omega), sennitref21_Few.j1, if_pos rfl, if_pos (by omega), if_pos h, rdH hil, dropCons hil, List.all_cons]
      by_cases h2 : 20 < rows[i].f0.size
      · rw [if_pos (by omega), decide_eq_false (show ¬ rows[i].f0.size ≤ 20 by omega)]; simp
      · by_cases h3 : 100 < rows[i].f1.size
        · rw [if_neg (by omega), if_pos (by omega), decide_eq_false (show ¬ rows[i].f1.size ≤ 100 by omega)]; simp
        · rw [if_neg (by omega), if_neg (by omega), gw1 (by omega), ref_FewH_l0 rows r (i + 1) k (by omega) (by omega), decide_eq_true (show rows[i].f0.size ≤ 20 by omega), decide_eq_true (show rows[i].f1.size ≤ 100 by omega)]; rfl
    · rw [if_neg h, sennitref21_Few.j1, if_neg (by decide), List.drop_of_length_le (by omega), List.all_nil, Bool.and_true]
      congr 1
      rw [decide_eq_decide]; omega
theorem ref_FewH (rows : List RowH) : Gives (fun k => sennitref21_Few.f k rows) (fewRB rows) := ⟨84, fun k hk => by
  show sennitref21_Few.l0 k rows ((0 : Nat) : Int) = _
  rw [ref_FewH_l0 rows 41 0 k (by omega) (by omega)]; rfl⟩
theorem passN_count : ∀ (rows : List RowH) (n : Int), passN rows n = n + ((rows.filter (fun x => !lostB x.f0)).length : Int)
  | [], n => by simp [passN]
  | x :: rows, n => by
    show passN rows (n + oneB (!lostB x.f0)) = _
    rw [passN_count rows, List.filter_cons]
    cases h : !lostB x.f0 with
    | true => rw [if_pos rfl, List.length_cons]; simp only [oneB, if_true]; omega
    | false => rw [if_neg (by decide)]; simp only [oneB, Bool.false_eq_true, if_false]; omega
theorem passR_count {i : Nat} : ∀ (rows : List RowH) (olds : List Int), i < olds.length → (passR rows olds).getD i 0 = olds.getD i 0 + ((rows.filter (fun x => ofB (i : Int) x.f0)).length : Int)
  | [], olds, _ => by simp [passR]
  | x :: rows, olds, h => by
    show (passR rows (passL x.f0 olds)).getD i 0 = _
    rw [passR_count rows _ (by rw [passL_len]; exact h), passL_get _ _ h, List.filter_cons]
    cases h : ofB (i : Int) x.f0 with
    | true => rw [if_pos rfl, List.length_cons]; simp only [oneB, if_true]; omega
    | false => rw [if_neg (by decide)]; simp only [oneB, Bool.false_eq_true, if_false]; omega
theorem ctN_eq (rows : List RowH) (f : Nat) : ctN rows f = (((rows.take f).filter (fun x => !lostB x.f0)).length : Int) := by
  show passN (rows.take f) 0 = _
  rw [passN_count]; omega
theorem ctR_eq {rows : List RowH} {f i : Nat} (h : i < (rd_T57 rows 0).f0.size) : (ctR rows f).getD i 0 = (((rows.take f).filter (fun x => ofB (i : Int) x.f0)).length : Int) := by
  rw [passR_count _ _ (by rw [List.length_replicate]; exact h), List.getD_eq_getElem?_getD, List.getElem?_replicate, if_pos h]
  simp
theorem cut_split {rows : List RowH} {f t : Nat} (h : f ≤ t) : rows.take t = rows.take f ++ cutR rows f t := by
  have := (List.take_append_drop f (rows.take t)).symm
  rwa [List.take_take, Nat.min_eq_left h] at this
theorem filter_len_cut {rows : List RowH} {f t : Nat} (h : f ≤ t) (p : RowH → Bool) : ((rows.take f).filter p).length + ((cutR rows f t).filter p).length = ((rows.take t).filter p).length := by
  rw [cut_split h, List.filter_append, List.length_append]
theorem spansH_take {rows : List RowH} {f t i : Nat} (hi : i < (rd_T57 rows 0).f0.size) : (spansH (ctR rows f) (ctR rows t)).take (i + 1) = (spansH (ctR rows f) (ctR rows t)).take i ++ [⟨(ctR rows f).getD i 0, (ctR rows t).getD i 0⟩] := by
  have h1 : i < (ctR rows f).length := by rw [ctR_len]; exact hi
  have h2 : i < (ctR rows t).length := by rw [ctR_len]; exact hi
  have hl : i < (spansH (ctR rows f) (ctR rows t)).length := by rw [spansH, List.length_zipWith]; omega
  rw [← List.take_append_getElem hl]
  congr 1
  simp only [spansH, List.getElem_zipWith]
  rw [getD_get h1, getD_get h2]
theorem ref_Hunk21 {rows : List RowH} (hz : Low rows) (hl : rows.length ≤ 100000) (hn : (rd_T57 rows 0).f0.size ≤ 1000000) {f t : Nat} (hft : f ≤ t) (ht : t ≤ rows.length) (hpos : 0 < rows.length) : Gives (fun k => sennitref21_Hunk.f k rows (f : Int) (t : Int)) ((hunkOf rows f t).f0, (hunkOf rows f t).f1.f0, (hunkOf rows f t).f1.f1, (hunkOf rows f t).f2) := by
  have hz2 : ∀ x ∈ rows, x.f0.size ≤ 1000000000 := fun x hx => by have := hz x hx; omega
  have hzt : ∀ q, ∀ x ∈ rows.take q, x.f0.size ≤ 1000000000 := fun q x hx => hz2 x (List.mem_of_mem_take hx)
  have hzc : ∀ x ∈ cutR rows f t, x.f0.size ≤ 1000000000 := fun x hx => hz2 x (cutR_mem hx)
  have hlt : ∀ q, (rows.take q).length ≤ 100000 := fun q => by rw [List.length_take]; omega
  have hlc : (cutR rows f t).length ≤ 100000 := by rw [cutR_len ht]; omega
  obtain ⟨n, hn0⟩ : ∃ n, (rd_T57 rows 0).f0.size = n := ⟨_, rfl⟩
  have hloop : ∀ (r i : Nat), i + r = n → Gives (fun k => sennitref21_Hunk.l0 k rows (f : Int) (t : Int) (i : Int) ((spansH (ctR rows f) (ctR rows t)).take i) (ctN rows f) (ctN rows t) (cutR rows f t)) (spansH (ctR rows f) (ctR rows t), ctN rows f, ctN rows t, cutR rows f t) := by
    intro r
    induction r with
    | zero =>
      intro i hi
      have e : (spansH (ctR rows f) (ctR rows t)).take i = spansH (ctR rows f) (ctR rows t) := List.take_of_length_le (by rw [spansH, List.length_zipWith, ctR_len, ctR_len]; omega)
      rw [e]
      refine Gives.of fun k => ?_
      show sennitref21_Hunk.l0 (k + 1) rows (f : Int) (t : Int) (i : Int) _ _ _ _ = _
      rw [sennitref21_Hunk.l0, if_pos (by omega), if_neg (by omega)]
    | succ r ih =>
      intro i hi
      have h1 := ref_Column20 (R := rows.take f) (i : Int) (hlt f) (hzt f)
      have h2 := ref_Column20 (R := cutR rows f t) (i : Int) hlc hzc
      have hlen : ((spansH (ctR rows f) (ctR rows t)).take i).length ≤ i := by rw [List.length_take]; omega
      have e1 : (((((rows.take f).filter (fun x => ofB (i : Int) x.f0)).map (·.f1)).length : Nat) : Int) = (ctR rows f).getD i 0 := by rw [List.length_map, ctR_eq (by omega)]
      have hfl : ((rows.take f).filter (fun x => ofB (i : Int) x.f0)).length + ((cutR rows f t).filter (fun x => ofB (i : Int) x.f0)).length = ((rows.take t).filter (fun x => ofB (i : Int) x.f0)).length := filter_len_cut hft (rows := rows) (fun x => ofB (i : Int) x.f0)
      have hb : ((rows.take t).filter (fun x => ofB (i : Int) x.f0)).length ≤ (rows.take t).length := List.length_filter_le _ _
      have hb2 := hlt t
      have e2 : wrap64 (((((rows.take f).filter (fun x => ofB (i : Int) x.f0)).map (·.f1)).length : Int) + ((((cutR rows f t).filter (fun x => ofB (i : Int) x.f0)).map (·.f1)).length : Int)) = (ctR rows t).getD i 0 := by
        rw [ctR_eq (by omega), List.length_map, List.length_map, gw (by omega) (by omega)]; omega
      have hnx := ih (i + 1) (by omega)
      rw [spansH_take (by omega)] at hnx
      obtain ⟨K1, k1⟩ := h1
      obtain ⟨K2, k2⟩ := h2
      obtain ⟨K3, k3⟩ := hnx
      dsimp only at k1 k2 k3
      refine Gives.of' (K1 + K2 + K3) fun k hk => ?_
      show sennitref21_Hunk.l0 (k + 1) rows (f : Int) (t : Int) (i : Int) _ _ _ _ = _
      rw [sennitref21_Hunk.l0, if_pos (by omega), if_pos (by omega), if_pos (by omega), if_pos (by omega), Int.toNat_natCast, Int.toNat_natCast, k1 k (by omega), Option.bind_some, if_pos (by omega), if_pos (by omega)]
      rw [show (rows.take t).drop f = cutR rows f t from rfl, k2 k (by omega), Option.bind_some, if_pos (by omega), e2, e1, gw1 (by omega)]
      exact k3 k (by omega)
  have hr1 := ref_Result20 (R := rows.take f) (hlt f) (hzt f)
  have hr2 := ref_Result20 (R := cutR rows f t) hlc hzc
  have hl0 := hloop n 0 (by omega)
  have e1 : (((((rows.take f).filter (fun x => !lostB x.f0)).map (·.f1)).length : Nat) : Int) = ctN rows f := by rw [List.length_map, ctN_eq]
  have hfl : ((rows.take f).filter (fun x => !lostB x.f0)).length + ((cutR rows f t).filter (fun x => !lostB x.f0)).length = ((rows.take t).filter (fun x => !lostB x.f0)).length := filter_len_cut hft (rows := rows) (fun x => !lostB x.f0)
  have hb : ((rows.take t).filter (fun x => !lostB x.f0)).length ≤ (rows.take t).length := List.length_filter_le _ _
  have hb2 := hlt t
  have e2 : wrap64 (((((rows.take f).filter (fun x => !lostB x.f0)).map (·.f1)).length : Int) + ((((cutR rows f t).filter (fun x => !lostB x.f0)).map (·.f1)).length : Int)) = ctN rows t := by
    rw [ctN_eq, List.length_map, List.length_map, gw (by omega) (by omega)]; omega
  obtain ⟨K1, k1⟩ := hr1
  obtain ⟨K2, k2⟩ := hr2
  obtain ⟨K3, k3⟩ := hl0
  dsimp only at k1 k2 k3
  refine ⟨K1 + K2 + K3, fun k hk => ?_⟩
  show sennitref21_Hunk.f k rows (f : Int) (t : Int) = _
  rw [sennitref21_Hunk.f, if_pos (by omega), if_pos (by omega), if_pos (by omega), if_pos (by omega), Int.toNat_natCast, Int.toNat_natCast, k1 k (by omega), Option.bind_some]
  rw [show (rows.take t).drop f = cutR rows f t from rfl, k2 k (by omega), Option.bind_some, e2, e1]
  exact k3 k (by omega)
theorem cutsGo_fuel (rows : List RowH) (sh : List Bool) : ∀ (r r' i : Nat), sh.length < r + i → sh.length < r' + i → cutsGo rows sh r i = cutsGo rows sh r' i := by
  intro r
  induction r with
  | zero => intro r' i h h'; rw [cutsGo_end rows (by omega), cutsGo_end rows (by omega)]
  | succ r ih =>
    intro r' i h h'
    by_cases hi : i < sh.length
    · obtain ⟨r', rfl⟩ : ∃ q, r' = q + 1 := ⟨r' - 1, by omega⟩
      cases hm : sh[i] with
      | true =>
        have h1 := HkP.groupEnd_spec id sh (i + 1) (by omega)
        rw [cutsGo_hit rows hi hm, cutsGo_hit rows hi hm, HkP.groupEnd_step id hi hm, ih r' _ (by omega) (by omega)]
      | false => rw [cutsGo_miss rows hi hm, cutsGo_miss rows hi hm, ih r' _ (by omega) (by omega)]
    · rw [cutsGo_end rows hi, cutsGo_end rows hi]
theorem ref_Hunks21 {rows : List RowH} (hlow : lowB rows = true) (hl5 : rows.length ≤ 100000) (x : Int) (dense : Bool) : Gives (fun k => sennitref21_Hunks.f k rows x dense) (hunksC rows x dense) := by
  obtain ⟨hl, hz, ht⟩ := lowB_iff hlow
  rw [hunksC]
  have hj : ∀ q, (q = true ∨ (¬ x < 0 ∧ ¬ 1000 < x)) → Gives (fun k => sennitref21_Hunks.j0 k rows x dense q) (if q = true then (([] : List Hunk48), (1 : Int)) else if mayB rows = false then ([], 2) else (cutsH rows (shownC rows x.toNat dense), 0)) := by
    intro q hq
    cases q with
    | true =>
      rw [if_pos rfl]
      refine Gives.of fun k => ?_
      show sennitref21_Hunks.j0 (k + 1) rows x dense true = _
      rw [sennitref21_Hunks.j0, if_pos rfl]
    | false =>
      rw [if_neg (by decide)]
      have hx : ¬ x < 0 ∧ ¬ 1000 < x := by
        rcases hq with h | h
        · cases h
        · exact h
      have hm := ref_MayH hz ht hl
      cases hmb : mayB rows with
      | false =>
        rw [hmb] at hm
        rw [if_pos rfl]
        refine Gives.last hm fun k hk => ?_
        show sennitref21_Hunks.j0 (k + 1) rows x dense false = _
        rw [sennitref21_Hunks.j0, if_neg (by decide), hk, Option.bind_some, if_neg (by decide)]
      | true =>
        rw [hmb] at hm
        rw [if_neg (by decide)]
        obtain ⟨hg, hsz⟩ := mayB_good hmb
        obtain ⟨xn, rfl⟩ : ∃ xn : Nat, x = (xn : Int) := ⟨x.toNat, by omega⟩
        rw [Int.toNat_natCast]
        obtain ⟨sh, hsh⟩ : ∃ sh, shownC rows xn dense = sh := ⟨_, rfl⟩
        have hshl : sh.length = rows.length := by rw [← hsh, shownC_len]
        have hsa : ∀ i (hi : i < rows.length), HkP.shownR mrkB (keepB rows dense) rows xn i = sh[i]'(by omega) := fun i hi => by
          rw [← shownC_at (x := xn) (dense := dense) hi, List.getD_eq_getElem?_getD]
          simp only [hsh]
          rw [List.getElem?_eq_getElem (by omega), Option.getD_some]
        rw [hsh]
        have hloop : ∀ (r i : Nat) (out : List Hunk48), rows.length < r + i → out.length ≤ i → Gives (fun k => sennitref21_Hunks.l0 k rows (xn : Int) dense out (i : Int)) (out ++ cutsGo rows sh r i, 0) := by
          intro r
          induction r with
          | zero =>
            intro i out hr ho
            rw [cutsGo_end rows (by omega), List.append_nil]
            refine Gives.of fun k => ?_
            show sennitref21_Hunks.l0 (k + 1) rows (xn : Int) dense out (i : Int) = _
            rw [sennitref21_Hunks.l0, if_neg (by omega)]
          | succ r ih =>
            intro i out hr ho
            by_cases hi : i < rows.length
            · obtain ⟨T, hT⟩ : ∃ T, HkP.groupEnd id sh i = T := ⟨_, rfl⟩
              have hsp := HkP.groupEnd_spec id sh i (by omega)
              rw [hT, hshl] at hsp
              obtain ⟨hiT, hTn, hin, hend⟩ := hsp
              have hfin : Gives (fun k => sennitref21_Hunks.l1 k rows (xn : Int) dense out (i : Int) (T : Int)) (out ++ cutsGo rows sh (r + 1) i, 0) := by
                have hTs : T < rows.length → Gives (fun k => sennitref21_shown.f k rows (T : Int) (xn : Int) dense) false := fun h => by
                  have := ref_shown hg (by
                    by_cases hn : rows = []
                    · rw [hn] at h; exact absurd h (by simp)
                    · have := hsz hn; omega) hz hl dense xn (by omega) h
                  rw [hsa T h] at this
                  have e : sh[T]'(by omega) = false := by
                    cases e : sh[T]'(by omega) with
                    | false => rfl
                    | true => exact (hend ⟨by omega, e⟩).elim
                  rwa [e] at this
                by_cases hTi : i < T
                · have him : sh[i]'(by omega) = true := (hin i (Nat.le_refl _) hTi).2
                  have hh := ref_Hunk21 hz hl5 (by have := hsz (by intro e; rw [e] at hi; exact absurd hi (by simp)); omega) hiT hTn (by omega)
                  have hcut : cutsGo rows sh (r + 1) i = hunkOf rows i T :: cutsGo rows sh r (T + 1) := by
                    rw [cutsGo_hit rows (by omega) him, hT]
                    congr 1
                    by_cases hTl : T < sh.length
                    · have e : sh[T] = false := by
                        cases e : sh[T] with
                        | false => rfl
                        | true => exact (hend ⟨hTl, e⟩).elim
                      rw [cutsGo_fuel rows sh r (r + 1) T (by omega) (by omega), cutsGo_miss rows hTl e]
                    · rw [cutsGo_end rows hTl, cutsGo_end rows (by omega)]
                  have hnx := ih (T + 1) (out ++ [hunkOf rows i T]) (by omega) (by rw [List.length_append, List.length_singleton]; omega)
                  rw [hcut]
                  rw [List.append_assoc] at hnx
                  obtain ⟨K1, k1⟩ := hh
                  obtain ⟨K2, k2⟩ := hnx
                  dsimp only at k1 k2
                  by_cases hTl : T < rows.length
                  · obtain ⟨K3, k3⟩ := hTs hTl
                    dsimp only at k3
                    refine Gives.of' (K1 + K2 + K3) fun k hk => ?_
                    show sennitref21_Hunks.l1 (k + 1) rows (xn : Int) dense out (i : Int) (T : Int) = _
                    rw [sennitref21_Hunks.l1, if_pos (by omega), k3 k (by omega), Option.bind_some, if_neg (by decide), if_pos (by omega), k1 k (by omega), Option.bind_some, if_pos (by omega), gw1 (by omega)]
                    exact k2 k (by omega)
                  · refine Gives.of' (K1 + K2) fun k hk => ?_
                    show sennitref21_Hunks.l1 (k + 1) rows (xn : Int) dense out (i : Int) (T : Int) = _
                    rw [sennitref21_Hunks.l1, if_neg (by omega), if_pos (by omega), k1 k (by omega), Option.bind_some, if_pos (by omega), gw1 (by omega)]
                    exact k2 k (by omega)
                · obtain rfl : T = i := by omega
                  have e : sh[T]'(by omega) = false := by
                    cases e : sh[T]'(by omega) with
                    | false => rfl
                    | true => exact (hend ⟨by omega, e⟩).elim
                  rw [cutsGo_miss rows (by omega) e]
                  have hnx := ih (T + 1) out (by omega) (by omega)
                  refine Gives.call (hTs hi) hnx fun k hk => ?_
                  show sennitref21_Hunks.l1 (k + 1) rows (xn : Int) dense out (T : Int) (T : Int) = _
                  rw [sennitref21_Hunks.l1, if_pos (by omega), hk, Option.bind_some, if_neg (by decide), if_neg (by omega), gw1 (by omega)]
              have hrun : ∀ (m j : Nat), j + m = T → i ≤ j → Gives (fun k => sennitref21_Hunks.l1 k rows (xn : Int) dense out (i : Int) (j : Int)) (out ++ cutsGo rows sh (r + 1) i, 0) := by
                intro m
                induction m with
                | zero =>
                  intro j hj _
                  obtain rfl : j = T := by omega
                  exact hfin
                | succ m ihm =>
                  intro j hj hij
                  have hjn : j < rows.length := by omega
                  have hs := ref_shown hg (by have := hsz (by intro e; rw [e] at hi; exact absurd hi (by simp)); omega) hz hl dense xn (by omega) hjn
                  rw [hsa j hjn, show sh[j]'(by omega) = true from (hin j hij (by omega)).2] at hs
                  refine Gives.call hs (ihm (j + 1) (by omega) (by omega)) fun k hk => ?_
                  show sennitref21_Hunks.l1 (k + 1) rows (xn : Int) dense out (i : Int) (j : Int) = _
                  rw [sennitref21_Hunks.l1, if_pos (by omega), hk, Option.bind_some, if_pos rfl, gw1 (by omega)]
              refine (hrun (T - i) i (by omega) (Nat.le_refl _)).step fun k => ?_
              show sennitref21_Hunks.l0 (k + 1) rows (xn : Int) dense out (i : Int) = _
              rw [sennitref21_Hunks.l0, if_pos (by omega)]
            · rw [cutsGo_end rows (by omega), List.append_nil]
              refine Gives.of fun k => ?_
              show sennitref21_Hunks.l0 (k + 1) rows (xn : Int) dense out (i : Int) = _
              rw [sennitref21_Hunks.l0, if_neg (by omega)]
        have h0 := hloop (rows.length + 1) 0 [] (by omega) (Nat.le_refl _)
        rw [List.nil_append] at h0
        have e : cutsH rows sh = cutsGo rows sh (rows.length + 1) 0 := by rw [cutsH, hshl]; rfl
        rw [e]
        refine Gives.call hm h0 fun k hk => ?_
        show sennitref21_Hunks.j0 (k + 1) rows (xn : Int) dense false = _
        rw [sennitref21_Hunks.j0, if_neg (by decide), hk, Option.bind_some, if_pos rfl]; rfl
  by_cases h0 : x < 0
  · refine ((hj true (.inl rfl)).eq (by rw [if_pos rfl, if_pos (.inl h0)])).same fun k => ?_
    show sennitref21_Hunks.f k rows x dense = _
    rw [sennitref21_Hunks.f, if_pos h0]
  · by_cases h1 : 1000 < x
    · refine ((hj true (.inl rfl)).eq (by rw [if_pos rfl, if_pos (.inr h1)])).same fun k => ?_
      show sennitref21_Hunks.f k rows x dense = _
      rw [sennitref21_Hunks.f, if_neg h0, decide_eq_true (show x > 1000 from h1)]
    · refine ((hj false (.inr ⟨h0, h1⟩)).eq (by rw [if_neg (by decide), if_neg (show ¬ (x < 0 ∨ 1000 < x) by omega)])).same fun k => ?_
      show sennitref21_Hunks.f k rows x dense = _
      rw [sennitref21_Hunks.f, if_neg h0, decide_eq_false (show ¬ x > 1000 by omega)]
theorem cutsH_len (rows : List RowH) (sh : List Bool) : (cutsH rows sh).length ≤ sh.length + 1 := by
  have := cutsGo_len rows sh (sh.length + 1) 0
  exact this
theorem ref_SameSelf (a : List Hunk48) (ha : a.length ≤ 1000000) (hr : ∀ h ∈ a, h.f0.length ≤ 1000000 ∧ h.f2.length ≤ 1000000) : Gives (fun k => sennitref21_Same.f k a a) true := by
  have hin : ∀ (i : Nat) (hi : i < a.length), Gives (fun k => sennitref21_Same.l0 k a a ((i + 1 : Nat) : Int)) true → ∀ (r j : Nat), j + r = a[i].f0.length → Gives (fun k => sennitref21_Same.l1 k a a (i : Int) (j : Int)) true := by
    intro i hi hnx r
    have e : rd_T48 a (i : Int) = a[i] := getN hi
    have hb := (hr _ (List.getElem_mem hi)).1
    induction r with
    | zero =>
      intro j hj
      refine hnx.step fun k => ?_
      show sennitref21_Same.l1 (k + 1) a a (i : Int) (j : Int) = _
      rw [sennitref21_Same.l1, if_pos (by omega), if_pos (by omega), e, if_neg (by omega), gw1 (by omega)]
    | succ r ih =>
      intro j hj
      refine (ih (j + 1) (by omega)).step fun k => ?_
      show sennitref21_Same.l1 (k + 1) a a (i : Int) (j : Int) = _
      rw [sennitref21_Same.l1, if_pos (by omega), if_pos (by omega), e, if_pos (by omega), if_pos (by omega), if_pos (by omega), if_pos (by omega), if_neg (by simp), gw1 (by omega)]
  have hl : ∀ (r i : Nat), i + r = a.length → Gives (fun k => sennitref21_Same.l0 k a a (i : Int)) true := by
    intro r
    induction r with
    | zero =>
      intro i hi
      refine Gives.of fun k => ?_
      show sennitref21_Same.l0 (k + 1) a a (i : Int) = _
      rw [sennitref21_Same.l0, if_neg (by omega)]
    | succ r ih =>
      intro i hi
      have hil : i < a.length := by omega
      have e : rd_T48 a (i : Int) = a[i] := getN hil
      have h1 := hin i hil (ih (i + 1) (by omega)) a[i].f0.length 0 (by omega)
      have hs := (ref_Same19 a[i].f2 a[i].f2 (hr _ (List.getElem_mem hil)).2).eq (decide_eq_true rfl)
      have hj : Gives (fun k => sennitref21_Same.j1 k a a (i : Int) false) true := h1.step fun k => by
        show sennitref21_Same.j1 (k + 1) a a (i : Int) false = _
        rw [sennitref21_Same.j1, if_neg (by decide)]; rfl
      refine Gives.call hs hj fun k hk => ?_
      show sennitref21_Same.l0 (k + 1) a a (i : Int) = _
      rw [sennitref21_Same.l0, if_pos (by omega), if_pos (by omega), if_pos (by omega), if_neg (by simp), e, if_pos rfl, hk, Option.bind_some]; rfl
  refine (hl a.length 0 (by omega)).same fun k => ?_
  show sennitref21_Same.f k a a = _
  rw [sennitref21_Same.f, if_pos rfl]; rfl
end Go.Proofs.YthcnfflhejogfaaDoor.X
-- part XHwT
namespace Go.Proofs.YthcnfflhejogfaaDoor.X
open Go.RowKit Go.Proofs.YthcnfflhejogfaaDoorW.PrintWords Go.Proofs.YthcnfflhejogfaaDoorW.PrintLast Go.Proofs.YthcnfflhejogfaaDoorW.PrintMore
set_option linter.unusedVariables false
set_option linter.unusedSimpArgs false
theorem cut_mem {rows : List RowH} {sh : List Bool} (hs : sh.length = rows.length) {h : Hunk48} (hh : h ∈ cutsH rows sh) : ∃ f t, h = hunkOf rows f t ∧ HkP.IsGroup id sh f t := by
  rw [cutsH, List.mem_map] at hh
  obtain ⟨p, hp, rfl⟩ := hh
  exact ⟨p.1, p.2, rfl, ((HkP.mem_groupsGo id _ 0 (by omega) (fun j hj => by omega)).1 hp).2⟩
theorem hunksC_low {rows : List RowH} (hl : rows.length ≤ 100000) (hn : (rd_T57 rows 0).f0.size ≤ 1000000) (x : Int) (dense : Bool) : (hunksC rows x dense).1.length ≤ 1000000 ∧ ∀ h ∈ (hunksC rows x dense).1, h.f0.length ≤ 1000000 ∧ h.f2.length ≤ 1000000 := by
  unfold hunksC
  split
  · exact ⟨by simp, fun h hh => by cases hh⟩
  · split
    · exact ⟨by simp, fun h hh => by cases hh⟩
    · refine ⟨?_, fun h hh => ?_⟩
      · have := cutsH_len rows (shownC rows x.toNat dense)
        rw [shownC_len] at this
        show (cutsH rows (shownC rows x.toNat dense)).length ≤ _
        omega
      · obtain ⟨f, t, rfl, hg⟩ := cut_mem (shownC_len _ _ _) hh
        have ht := hg.2.1
        rw [shownC_len] at ht
        refine ⟨?_, ?_⟩
        · show (spansH (ctR rows f) (ctR rows t)).length ≤ _
          rw [spansH, List.length_zipWith, ctR_len, ctR_len]; omega
        · show (cutR rows f t).length ≤ _
          rw [cutR_len ht]; omega
theorem rd0_small {rows : List RowH} {n : Nat} (h : ∀ x ∈ rows, x.f0.size ≤ n) : (rd_T57 rows 0).f0.size ≤ n := by
  cases rows with
  | nil => exact Nat.zero_le _
  | cons x l => exact h x List.mem_cons_self
theorem tells21 (rows : List RowH) (x : Int) (dense : Bool) : Gives (fun k => sennitlaw21_HunkTells.f k rows x dense) true := by
  obtain ⟨K0, k0⟩ := sennitlaw21_awake.gives
  obtain ⟨K1, k1⟩ := ref_FewH rows
  dsimp only at k1
  cases hf : fewRB rows with
  | false =>
    rw [hf] at k1
    refine ⟨K0 + K1, fun k hk => ?_⟩
    show sennitlaw21_HunkTells.f k rows x dense = _
    rw [sennitlaw21_HunkTells.f, k0 k (by omega), Option.bind_some, k1 k (by omega), Option.bind_some, if_neg (by decide)]
  | true =>
    rw [hf] at k1
    have hF := fewRB_iff hf
    obtain ⟨K2, k2⟩ := ref_Hunks21 hF.low (by have := hF.1; omega) x dense
    have hlow := hunksC_low (rows := rows) (by have := hF.1; omega) (Nat.le_trans (rd0_small (n := 20) (fun y hy => (hF.2 y hy).1)) (by omega)) x dense
    obtain ⟨K3, k3⟩ := ref_SameSelf _ hlow.1 hlow.2
    dsimp only at k2 k3
    refine ⟨K0 + K1 + K2 + K3, fun k hk => ?_⟩
    have e : hunk_Hunks.f rows x dense = some (hunksC rows x dense) := by rw [hunk_Hunks.f, if_pos hF.low]
    show sennitlaw21_HunkTells.f k rows x dense = _
    rw [sennitlaw21_HunkTells.f, k0 k (by omega), Option.bind_some, k1 k (by omega), Option.bind_some, if_pos rfl, e, Option.bind_some, k2 k (by omega), Option.bind_some, if_pos rfl, if_pos rfl, k3 k (by omega), Option.bind_some]
theorem law_HunkTells (W : World) (hm : MaxAt W) (A0 : Option Addr) (c0 : Nat) (l0 : List S57) (hr0 : Kd.C k57 W A0 l0.length l0) (hc0 : l0.length ≤ c0) (g0 : l0.length * 32 ≤ 140737488351232 ∧ ∀ y ∈ l0, (((fun x : S57 => (x.f0, x.f1)) y).1.size ≤ 140737488351232) ∧ (((fun x : S57 => (x.f0, x.f1)) y).2.size ≤ 140737488351232)) (x1 : Int) (g1 : (Lit.int .i64 x1).wf = true) (x2 : Bool) (g2 : True) :
    Calls Tryd.prog 8 #[.slice A0 l0.length c0, .int .i64 x1, .bool x2] W fun e w' => e = .returned (.bool true) ∧ Below W.heap.size W w' := by
  obtain ⟨k, hk⟩ := tells21 l0 x1 x2
  exact sennitlaw21_HunkTells.calls k A0 c0 l0 x1 x2 true W hr0 hc0 (hk k (Nat.le_refl _)) ⟨hm⟩
end Go.Proofs.YthcnfflhejogfaaDoor.X
