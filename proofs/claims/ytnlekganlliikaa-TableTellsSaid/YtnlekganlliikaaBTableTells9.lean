/-
  Parts of one proof, one behind the other: XKn1, XTabMath, XTabRows, XTabTells.
-/
import Derived.Test.YtnlekganlliikaaBTableTells8
-- part XKn1
namespace Go.Proofs.Ytnlekganlliikaa.X
open Go.RowKit Go.Proofs.YtnlekganlliikaaW.PrintWords Go.Proofs.YtnlekganlliikaaW.PrintLast Go.Proofs.YtnlekganlliikaaW.PrintMore
attribute [local go_sem] max2_int min2_int max_two min_two max_three min_three max_four min_four   -- for this text's walks alone
set_option linter.unusedVariables false
set_option linter.unusedSimpArgs false
attribute [local go_sem high] eqA37
def sennitlaw20_awake.f  : Option (Bool) := (table_Table.f (([(⟨#[97, 10]⟩ : ByteArray), (⟨#[99, 10]⟩ : ByteArray)] : List ByteArray)) (([(([(⟨#[97, 10]⟩ : ByteArray), (⟨#[98, 10]⟩ : ByteArray)] : List ByteArray)), (([(⟨#[97, 10]⟩ : ByteArray), (⟨#[99, 10]⟩ : ByteArray)] : List ByteArray))] : List (List ByteArray)))).bind fun bt113 => ((table_Table.f ([] : List ByteArray) ([] : List (List ByteArray))).bind fun bt117 => ((table_Column.f bt113.1 0).bind fun t121 => (if bt113.2 = 0 then (if bt117.2 = 1 then (if (bt113.1.length : Int) = 3 then (if 0 < (bt113.1.length : Int) then (if ((rd_T37 bt113.1 0).f0).toList = ([32, 32] : List UInt8) then (if 1 < (bt113.1.length : Int) then (if ((((rd_T37 bt113.1 1).f0).toList) == ([45, 32] : List UInt8) && ((((rd_T37 bt113.1 1).f1).toList) == ([98, 10] : List UInt8))) = true then (if 2 < (bt113.1.length : Int) then (if ((rd_T37 bt113.1 2).f0).toList = ([43, 32] : List UInt8) then ((table_Lost.f ((rd_T37 bt113.1 1).f0) ((rd_T37 bt113.1 1).f1)).bind fun t128 => (if t128 = true then ((table_Lost.f ((rd_T37 bt113.1 2).f0) ((rd_T37 bt113.1 2).f1)).bind fun t130 => (if t130 = true then (some false) else (if (t121.length : Int) = 2 then ((table_Result.f bt113.1).bind fun t131 => (some ((t131.length : Int) == 2))) else (some false)))) else (some false))) else (some false)) else (none)) else (some false)) else (none)) else (some false)) else (none)) else (some false)) else (some false)) else (some false))))
theorem sennitlaw20_awake.true_ : sennitlaw20_awake.f = some true := by decide +kernel
set_option maxHeartbeats 8000000 in
set_option maxRecDepth 100000 in
theorem sennitlaw20_awake.calls  (r : Bool) (w : World) (h : sennitlaw20_awake.f  = some r) :
    Calls Try.prog 23 #[] w fun e w' => e = .returned (.bool r) ∧ Below w.heap.size w w' := by
  have hrt_ : r = true := Option.some.inj (h.symm.trans sennitlaw20_awake.true_)
  have hu37 := Try.underlying37
  have HB := Aside0.mk (Below.refl w.heap.size w)
  have H : ((table_Table.f (([(⟨#[97, 10]⟩ : ByteArray), (⟨#[99, 10]⟩ : ByteArray)] : List ByteArray)) (([(([(⟨#[97, 10]⟩ : ByteArray), (⟨#[98, 10]⟩ : ByteArray)] : List ByteArray)), (([(⟨#[97, 10]⟩ : ByteArray), (⟨#[99, 10]⟩ : ByteArray)] : List ByteArray))] : List (List ByteArray)))).bind fun bt113 => ((table_Table.f ([] : List ByteArray) ([] : List (List ByteArray))).bind fun bt117 => ((table_Column.f bt113.1 0).bind fun t121 => (if bt113.2 = 0 then (if bt117.2 = 1 then (if (bt113.1.length : Int) = 3 then (if 0 < (bt113.1.length : Int) then (if ((rd_T37 bt113.1 0).f0).toList = ([32, 32] : List UInt8) then (if 1 < (bt113.1.length : Int) then (if ((((rd_T37 bt113.1 1).f0).toList) == ([45, 32] : List UInt8) && ((((rd_T37 bt113.1 1).f1).toList) == ([98, 10] : List UInt8))) = true then (if 2 < (bt113.1.length : Int) then (if ((rd_T37 bt113.1 2).f0).toList = ([43, 32] : List UInt8) then ((table_Lost.f ((rd_T37 bt113.1 1).f0) ((rd_T37 bt113.1 1).f1)).bind fun t128 => (if t128 = true then ((table_Lost.f ((rd_T37 bt113.1 2).f0) ((rd_T37 bt113.1 2).f1)).bind fun t130 => (if t130 = true then (some false) else (if (t121.length : Int) = 2 then ((table_Result.f bt113.1).bind fun t131 => (some ((t131.length : Int) == 2))) else (some false)))) else (some false))) else (some false)) else (none)) else (some false)) else (none)) else (some false)) else (none)) else (some false)) else (some false)) else (some false))))) = some r := h
  clear h
  obtain ⟨y101, hy101⟩ : ∃ y_ : List ByteArray, y_ = (([(⟨#[97, 10]⟩ : ByteArray), (⟨#[99, 10]⟩ : ByteArray)] : List ByteArray)) := ⟨_, rfl⟩
  replace H : ((table_Table.f y101 (([(([(⟨#[97, 10]⟩ : ByteArray), (⟨#[98, 10]⟩ : ByteArray)] : List ByteArray)), (([(⟨#[97, 10]⟩ : ByteArray), (⟨#[99, 10]⟩ : ByteArray)] : List ByteArray))] : List (List ByteArray)))).bind fun bt113 => ((table_Table.f ([] : List ByteArray) ([] : List (List ByteArray))).bind fun bt117 => ((table_Column.f bt113.1 0).bind fun t121 => (if bt113.2 = 0 then (if bt117.2 = 1 then (if (bt113.1.length : Int) = 3 then (if 0 < (bt113.1.length : Int) then (if ((rd_T37 bt113.1 0).f0).toList = ([32, 32] : List UInt8) then (if 1 < (bt113.1.length : Int) then (if ((((rd_T37 bt113.1 1).f0).toList) == ([45, 32] : List UInt8) && ((((rd_T37 bt113.1 1).f1).toList) == ([98, 10] : List UInt8))) = true then (if 2 < (bt113.1.length : Int) then (if ((rd_T37 bt113.1 2).f0).toList = ([43, 32] : List UInt8) then ((table_Lost.f ((rd_T37 bt113.1 1).f0) ((rd_T37 bt113.1 1).f1)).bind fun t128 => (if t128 = true then ((table_Lost.f ((rd_T37 bt113.1 2).f0) ((rd_T37 bt113.1 2).f1)).bind fun t130 => (if t130 = true then (some false) else (if (t121.length : Int) = 2 then ((table_Result.f bt113.1).bind fun t131 => (some ((t131.length : Int) == 2))) else (some false)))) else (some false))) else (some false)) else (none)) else (some false)) else (none)) else (some false)) else (none)) else (some false)) else (some false)) else (some false))))) = some r := by first | (rw [hy101]; with_reducible exact H) | (have H2_ := (Option.bind_some _ _).symm.trans H; rw [hy101]; with_reducible exact H2_) | (have H2_ := (Option.bind_some _ _).symm.trans H; with_reducible exact H2_) | with_reducible exact H | (rw [hy101]; exact H) | exact H
  have Ny101 := Aside0.mk hy101
  clear hy101
  obtain ⟨y104, hy104⟩ : ∃ y_ : List ByteArray, y_ = (([(⟨#[97, 10]⟩ : ByteArray), (⟨#[98, 10]⟩ : ByteArray)] : List ByteArray)) := ⟨_, rfl⟩
  replace H : ((table_Table.f y101 (([y104, (([(⟨#[97, 10]⟩ : ByteArray), (⟨#[99, 10]⟩ : ByteArray)] : List ByteArray))] : List (List ByteArray)))).bind fun bt113 => ((table_Table.f ([] : List ByteArray) ([] : List (List ByteArray))).bind fun bt117 => ((table_Column.f bt113.1 0).bind fun t121 => (if bt113.2 = 0 then (if bt117.2 = 1 then (if (bt113.1.length : Int) = 3 then (if 0 < (bt113.1.length : Int) then (if ((rd_T37 bt113.1 0).f0).toList = ([32, 32] : List UInt8) then (if 1 < (bt113.1.length : Int) then (if ((((rd_T37 bt113.1 1).f0).toList) == ([45, 32] : List UInt8) && ((((rd_T37 bt113.1 1).f1).toList) == ([98, 10] : List UInt8))) = true then (if 2 < (bt113.1.length : Int) then (if ((rd_T37 bt113.1 2).f0).toList = ([43, 32] : List UInt8) then ((table_Lost.f ((rd_T37 bt113.1 1).f0) ((rd_T37 bt113.1 1).f1)).bind fun t128 => (if t128 = true then ((table_Lost.f ((rd_T37 bt113.1 2).f0) ((rd_T37 bt113.1 2).f1)).bind fun t130 => (if t130 = true then (some false) else (if (t121.length : Int) = 2 then ((table_Result.f bt113.1).bind fun t131 => (some ((t131.length : Int) == 2))) else (some false)))) else (some false))) else (some false)) else (none)) else (some false)) else (none)) else (some false)) else (none)) else (some false)) else (some false)) else (some false))))) = some r := by first | (rw [hy104]; with_reducible exact H) | (have H2_ := (Option.bind_some _ _).symm.trans H; rw [hy104]; with_reducible exact H2_) | (have H2_ := (Option.bind_some _ _).symm.trans H; with_reducible exact H2_) | with_reducible exact H | (rw [hy104]; exact H) | exact H
  have Ny104 := Aside0.mk hy104
  clear hy104
  obtain ⟨y107, hy107⟩ : ∃ y_ : List ByteArray, y_ = (([(⟨#[97, 10]⟩ : ByteArray), (⟨#[99, 10]⟩ : ByteArray)] : List ByteArray)) := ⟨_, rfl⟩
  replace H : ((table_Table.f y101 (([y104, y107] : List (List ByteArray)))).bind fun bt113 => ((table_Table.f ([] : List ByteArray) ([] : List (List ByteArray))).bind fun bt117 => ((table_Column.f bt113.1 0).bind fun t121 => (if bt113.2 = 0 then (if bt117.2 = 1 then (if (bt113.1.length : Int) = 3 then (if 0 < (bt113.1.length : Int) then (if ((rd_T37 bt113.1 0).f0).toList = ([32, 32] : List UInt8) then (if 1 < (bt113.1.length : Int) then (if ((((rd_T37 bt113.1 1).f0).toList) == ([45, 32] : List UInt8) && ((((rd_T37 bt113.1 1).f1).toList) == ([98, 10] : List UInt8))) = true then (if 2 < (bt113.1.length : Int) then (if ((rd_T37 bt113.1 2).f0).toList = ([43, 32] : List UInt8) then ((table_Lost.f ((rd_T37 bt113.1 1).f0) ((rd_T37 bt113.1 1).f1)).bind fun t128 => (if t128 = true then ((table_Lost.f ((rd_T37 bt113.1 2).f0) ((rd_T37 bt113.1 2).f1)).bind fun t130 => (if t130 = true then (some false) else (if (t121.length : Int) = 2 then ((table_Result.f bt113.1).bind fun t131 => (some ((t131.length : Int) == 2))) else (some false)))) else (some false))) else (some false)) else (none)) else (some false)) else (none)) else (some false)) else (none)) else (some false)) else (some false)) else (some false))))) = some r := by first | (rw [hy107]; with_reducible exact H) | (have H2_ := (Option.bind_some _ _).symm.trans H; rw [hy107]; with_reducible exact H2_) | (have H2_ := (Option.bind_some _ _).symm.trans H; with_reducible exact H2_) | with_reducible exact H | (rw [hy107]; exact H) | exact H
  have Ny107 := Aside0.mk hy107
  clear hy107
  obtain ⟨y110, hy110⟩ : ∃ y_ : List (List ByteArray), y_ = (([y104, y107] : List (List ByteArray))) := ⟨_, rfl⟩
  replace H : ((table_Table.f y101 y110).bind fun bt113 => ((table_Table.f ([] : List ByteArray) ([] : List (List ByteArray))).bind fun bt117 => ((table_Column.f bt113.1 0).bind fun t121 => (if bt113.2 = 0 then (if bt117.2 = 1 then (if (bt113.1.length : Int) = 3 then (if 0 < (bt113.1.length : Int) then (if ((rd_T37 bt113.1 0).f0).toList = ([32, 32] : List UInt8) then (if 1 < (bt113.1.length : Int) then (if ((((rd_T37 bt113.1 1).f0).toList) == ([45, 32] : List UInt8) && ((((rd_T37 bt113.1 1).f1).toList) == ([98, 10] : List UInt8))) = true then (if 2 < (bt113.1.length : Int) then (if ((rd_T37 bt113.1 2).f0).toList = ([43, 32] : List UInt8) then ((table_Lost.f ((rd_T37 bt113.1 1).f0) ((rd_T37 bt113.1 1).f1)).bind fun t128 => (if t128 = true then ((table_Lost.f ((rd_T37 bt113.1 2).f0) ((rd_T37 bt113.1 2).f1)).bind fun t130 => (if t130 = true then (some false) else (if (t121.length : Int) = 2 then ((table_Result.f bt113.1).bind fun t131 => (some ((t131.length : Int) == 2))) else (some false)))) else (some false))) else (some false)) else (none)) else (some false)) else (none)) else (some false)) else (none)) else (some false)) else (some false)) else (some false))))) = some r := by first | (rw [hy110]; with_reducible exact H) | (have H2_ := (Option.bind_some _ _).symm.trans H; rw [hy110]; with_reducible exact H2_) | (have H2_ := (Option.bind_some _ _).symm.trans H; with_reducible exact H2_) | with_reducible exact H | (rw [hy110]; exact H) | exact H
  have Ny110 := Aside0.mk hy110
  clear hy110
  replace H := Option.bind_eq_some_iff.mp H
  obtain ⟨⟨t113, t114⟩, A10, H⟩ := H
  replace H : ((table_Table.f ([] : List ByteArray) ([] : List (List ByteArray))).bind fun bt117 => ((table_Column.f t113 0).bind fun t121 => (if t114 = 0 then (if bt117.2 = 1 then (if (t113.length : Int) = 3 then (if 0 < (t113.length : Int) then (if ((rd_T37 t113 0).f0).toList = ([32, 32] : List UInt8) then (if 1 < (t113.length : Int) then (if ((((rd_T37 t113 1).f0).toList) == ([45, 32] : List UInt8) && ((((rd_T37 t113 1).f1).toList) == ([98, 10] : List UInt8))) = true then (if 2 < (t113.length : Int) then (if ((rd_T37 t113 2).f0).toList = ([43, 32] : List UInt8) then ((table_Lost.f ((rd_T37 t113 1).f0) ((rd_T37 t113 1).f1)).bind fun t128 => (if t128 = true then ((table_Lost.f ((rd_T37 t113 2).f0) ((rd_T37 t113 2).f1)).bind fun t130 => (if t130 = true then (some false) else (if (t121.length : Int) = 2 then ((table_Result.f t113).bind fun t131 => (some ((t131.length : Int) == 2))) else (some false)))) else (some false))) else (some false)) else (none)) else (some false)) else (none)) else (some false)) else (none)) else (some false)) else (some false)) else (some false)))) = some r := H
  have A1 := Aside0.mk A10
  clear A10
  replace H := Option.bind_eq_some_iff.mp H
  obtain ⟨⟨t117, t118⟩, A20, H⟩ := H
  replace H : ((table_Column.f t113 0).bind fun t121 => (if t114 = 0 then (if t118 = 1 then (if (t113.length : Int) = 3 then (if 0 < (t113.length : Int) then (if ((rd_T37 t113 0).f0).toList = ([32, 32] : List UInt8) then (if 1 < (t113.length : Int) then (if ((((rd_T37 t113 1).f0).toList) == ([45, 32] : List UInt8) && ((((rd_T37 t113 1).f1).toList) == ([98, 10] : List UInt8))) = true then (if 2 < (t113.length : Int) then (if ((rd_T37 t113 2).f0).toList = ([43, 32] : List UInt8) then ((table_Lost.f ((rd_T37 t113 1).f0) ((rd_T37 t113 1).f1)).bind fun t128 => (if t128 = true then ((table_Lost.f ((rd_T37 t113 2).f0) ((rd_T37 t113 2).f1)).bind fun t130 => (if t130 = true then (some false) else (if (t121.length : Int) = 2 then ((table_Result.f t113).bind fun t131 => (some ((t131.length : Int) == 2))) else (some false)))) else (some false))) else (some false)) else (none)) else (some false)) else (none)) else (some false)) else (none)) else (some false)) else (some false)) else (some false))) = some r := H
  have A2 := Aside0.mk A20
  clear A20
  replace H := Option.bind_eq_some_iff.mp H
  obtain ⟨t121, A30, H⟩ := H
  replace H : (if t114 = 0 then (if t118 = 1 then (if (t113.length : Int) = 3 then (if 0 < (t113.length : Int) then (if ((rd_T37 t113 0).f0).toList = ([32, 32] : List UInt8) then (if 1 < (t113.length : Int) then (if ((((rd_T37 t113 1).f0).toList) == ([45, 32] : List UInt8) && ((((rd_T37 t113 1).f1).toList) == ([98, 10] : List UInt8))) = true then (if 2 < (t113.length : Int) then (if ((rd_T37 t113 2).f0).toList = ([43, 32] : List UInt8) then ((table_Lost.f ((rd_T37 t113 1).f0) ((rd_T37 t113 1).f1)).bind fun t128 => (if t128 = true then ((table_Lost.f ((rd_T37 t113 2).f0) ((rd_T37 t113 2).f1)).bind fun t130 => (if t130 = true then (some false) else (if (t121.length : Int) = 2 then ((table_Result.f t113).bind fun t131 => (some ((t131.length : Int) == 2))) else (some false)))) else (some false))) else (some false)) else (none)) else (some false)) else (none)) else (some false)) else (none)) else (some false)) else (some false)) else (some false)) = some r := H
  have A3 := Aside0.mk A30
  clear A30
  by_cases c4 : t114 = 0
  · rw [if_pos c4] at H
    have c4b0 : (t114 == 0) = true := beq_iff_eq.mpr c4
    have c4b1 : (t114 != 0) = false := bne_eq_false_iff_eq.mpr c4
    clear c4
    by_cases c5 : t118 = 1
    · rw [if_pos c5] at H
      have c5b0 : (t118 == 1) = true := beq_iff_eq.mpr c5
      have c5b1 : (t118 != 1) = false := bne_eq_false_iff_eq.mpr c5
      clear c5
      by_cases c6 : (t113.length : Int) = 3
      · rw [if_pos c6] at H
        have c6b0 : ((t113.length : Int) == 3) = true := beq_iff_eq.mpr c6
        have c6b1 : ((t113.length : Int) != 3) = false := bne_eq_false_iff_eq.mpr c6
        clear c6
        by_cases c7 : 0 < (t113.length : Int)
        · rw [if_pos c7] at H
          have c7b0 : decide (0 < (t113.length : Int)) = true := decide_eq_true c7
          have c7b1 : decide (0 < t113.length) = true := decide_eq_true (by omega)
          clear c7
          by_cases c8 : ((rd_T37 t113 0).f0).toList = ([32, 32] : List UInt8)
          · rw [if_pos c8] at H
            have c8b0 : (((rd_T37 t113 0).f0).toList == ([32, 32] : List UInt8)) = true := beq_iff_eq.mpr c8
            have c8b1 : (((rd_T37 t113 0).f0).toList != ([32, 32] : List UInt8)) = false := bne_eq_false_iff_eq.mpr c8
            clear c8
            by_cases c9 : 1 < (t113.length : Int)
            · rw [if_pos c9] at H
              have c9b0 : decide (1 < (t113.length : Int)) = true := decide_eq_true c9
              have c9b1 : decide (1 < t113.length) = true := decide_eq_true (by omega)
              clear c9
              by_cases c10 : ((((rd_T37 t113 1).f0).toList) == ([45, 32] : List UInt8) && ((((rd_T37 t113 1).f1).toList) == ([98, 10] : List UInt8))) = true
              · rw [if_pos c10] at H
                have c10b0 : ((((rd_T37 t113 1).f0).toList) == ([45, 32] : List UInt8) && ((((rd_T37 t113 1).f1).toList) == ([98, 10] : List UInt8))) = true := c10
                (try (have c10b1 : decide ((((rd_T37 t113 1).f0).toList) = ([45, 32] : List UInt8) && ((((rd_T37 t113 1).f1).toList) == ([98, 10] : List UInt8))) = true := by simpa using c10))
                (try (have c10b2 : ((((rd_T37 t113 1).f0).toList) == ([45, 32] : List UInt8) && ((((rd_T37 t113 1).f1).toList) == ([98, 10] : List UInt8))) = true := by simpa using c10))
                clear c10
                by_cases c11 : 2 < (t113.length : Int)
                · rw [if_pos c11] at H
                  have c11b0 : decide (2 < (t113.length : Int)) = true := decide_eq_true c11
                  have c11b1 : decide (2 < t113.length) = true := decide_eq_true (by omega)
                  clear c11
                  by_cases c12 : ((rd_T37 t113 2).f0).toList = ([43, 32] : List UInt8)
                  · rw [if_pos c12] at H
                    have c12b0 : (((rd_T37 t113 2).f0).toList == ([43, 32] : List UInt8)) = true := beq_iff_eq.mpr c12
                    have c12b1 : (((rd_T37 t113 2).f0).toList != ([43, 32] : List UInt8)) = false := bne_eq_false_iff_eq.mpr c12
                    clear c12
                    replace H := Option.bind_eq_some_iff.mp H
                    obtain ⟨t128, A130, H⟩ := H
                    replace H : (if t128 = true then ((table_Lost.f ((rd_T37 t113 2).f0) ((rd_T37 t113 2).f1)).bind fun t130 => (if t130 = true then (some false) else (if (t121.length : Int) = 2 then ((table_Result.f t113).bind fun t131 => (some ((t131.length : Int) == 2))) else (some false)))) else (some false)) = some r := H
                    have A13 := Aside0.mk A130
                    clear A130
                    by_cases c14 : t128 = true
                    · subst c14
                      have H1 : ((table_Lost.f ((rd_T37 t113 2).f0) ((rd_T37 t113 2).f1)).bind fun t130 => (if t130 = true then (some false) else (if (t121.length : Int) = 2 then ((table_Result.f t113).bind fun t131 => (some ((t131.length : Int) == 2))) else (some false)))) = some r := by rw [if_pos rfl] at H; exact H
                      clear H
                      have H := H1
                      clear H1
                      replace H := Option.bind_eq_some_iff.mp H
                      obtain ⟨t130, A150, H⟩ := H
                      replace H : (if t130 = true then (some false) else (if (t121.length : Int) = 2 then ((table_Result.f t113).bind fun t131 => (some ((t131.length : Int) == 2))) else (some false))) = some r := H
                      have A15 := Aside0.mk A150
                      clear A150
                      by_cases c16 : t130 = true
                      · subst c16
                        have H1 : (some false) = some r := by rw [if_pos rfl] at H; exact H
                        clear H
                        have H := H1
                        clear H1
                        exact absurd (Option.some.inj H) (by rw [hrt_]; decide)
                      · replace c16 := Bool.eq_false_iff.mpr c16
                        subst c16
                        have H1 : (if (t121.length : Int) = 2 then ((table_Result.f t113).bind fun t131 => (some ((t131.length : Int) == 2))) else (some false)) = some r := by rw [if_neg (show ¬ (false = true) by decide)] at H; exact H
                        clear H
                        have H := H1
                        clear H1
                        by_cases c35 : (t121.length : Int) = 2
                        · rw [if_pos c35] at H
                          have c35b0 : ((t121.length : Int) == 2) = true := beq_iff_eq.mpr c35
                          have c35b1 : ((t121.length : Int) != 2) = false := bne_eq_false_iff_eq.mpr c35
                          clear c35
                          replace H := Option.bind_eq_some_iff.mp H
                          obtain ⟨t131, A360, H⟩ := H
                          replace H : (some ((t131.length : Int) == 2)) = some r := H
                          have A36 := Aside0.mk A360
                          clear A360
                          obtain rfl := Option.some.inj H
                          go_enter Try.func23, Try.ntmps23
                          go_wp2_with (first | ((with_reducible refine gate_dst (N := 7) rfl ?_); (try (refine gate_guard (by rfl) ?_; dsimp only)); refine Kd.R_lit Kd.string _ 9 ?hg (N := 7) ?hd (xs := ([(⟨#[97, 10]⟩ : ByteArray), (⟨#[99, 10]⟩ : ByteArray)] : List ByteArray)) (inner := [.string (⟨#[97, 10]⟩ : ByteArray), .string (⟨#[99, 10]⟩ : ByteArray)]) (ok := fun _ => True) (okp := fun _ => True) ?hr ?hp (fun _ hk => hk) trivial (Below.refl _ _) (Nat.le_refl _) (by simp) ?_; (case hd => rfl); (case hg => rfl); (case hr => first | (go_simp; done) | (go_simp; rfl)); (case hp => exact (Reps.one (show Kd.M Kd.string _ _ _ (⟨#[97, 10]⟩ : ByteArray) [.string (⟨#[97, 10]⟩ : ByteArray)] from rfl) (Reps.one (show Kd.M Kd.string _ _ _ (⟨#[99, 10]⟩ : ByteArray) [.string (⟨#[99, 10]⟩ : ByteArray)] from rfl) (Reps.none _ _)))); intro v102 w37 ho38 hb hg_ hnew_; clear hg_ hnew_; (first | rw [← Ny101.out] at ho38 | (simp only [Int.reduceToNat] at ho38; rw [← Ny101.out] at ho38)); have n0_ := Aside0.mk (Kd.R_lower ho38 (below_size (by repeat (first | (with_reducible first | exact HB.out | apply below_alloc | apply pw_below_drewN | apply below_drew1) | exact HB.out)))); have n1_ := Aside0.mk (below_step (by repeat (first | (with_reducible first | exact HB.out | apply below_alloc | apply pw_below_drewN | apply below_drew1) | exact HB.out)) hb); clear HB; have HO103 := n0_; have HB := n1_; clear n0_ n1_; clear hb ho38) | ((with_reducible refine gate_dst (N := 8) rfl ?_); (try (refine gate_guard (by rfl) ?_; dsimp only)); refine Kd.R_lit Kd.string _ 9 ?hg (N := 8) ?hd (xs := ([(⟨#[97, 10]⟩ : ByteArray), (⟨#[98, 10]⟩ : ByteArray)] : List ByteArray)) (inner := [.string (⟨#[97, 10]⟩ : ByteArray), .string (⟨#[98, 10]⟩ : ByteArray)]) (ok := fun _ => True) (okp := fun _ => True) ?hr ?hp (fun _ hk => hk) trivial (Below.refl _ _) (Nat.le_refl _) (by simp) ?_; (case hd => rfl); (case hg => rfl); (case hr => first | (go_simp; done) | (go_simp; rfl)); (case hp => exact (Reps.one (show Kd.M Kd.string _ _ _ (⟨#[97, 10]⟩ : ByteArray) [.string (⟨#[97, 10]⟩ : ByteArray)] from rfl) (Reps.one (show Kd.M Kd.string _ _ _ (⟨#[98, 10]⟩ : ByteArray) [.string (⟨#[98, 10]⟩ : ByteArray)] from rfl) (Reps.none _ _)))); intro v105 w39 ho40 hb hg_ hnew_; clear hg_ hnew_; (first | rw [← Ny104.out] at ho40 | (simp only [Int.reduceToNat] at ho40; rw [← Ny104.out] at ho40)); have n0_ := Aside0.mk (Kd.R_elder' (by (with_reducible repeat (first | apply Kd.R_alloc | apply Kd.R_drewN | apply Kd.R_drew)); exact HO103.out) (Kd.R_base ho40) hb); have n1_ := Aside0.mk (Kd.R_lower (Kd.R_new' ho40 (Kd.R_lt (by (with_reducible repeat (first | apply Kd.R_alloc | apply Kd.R_drewN | apply Kd.R_drew)); exact HO103.out))) (below_size (by repeat (first | (with_reducible first | exact HB.out | apply below_alloc | apply pw_below_drewN | apply below_drew1) | exact HB.out)))); have n2_ := Aside0.mk (below_step (by repeat (first | (with_reducible first | exact HB.out | apply below_alloc | apply pw_below_drewN | apply below_drew1) | exact HB.out)) hb); clear HO103; clear HB; have HO103 := n0_; have HO106 := n1_; have HB := n2_; clear n0_ n1_ n2_; clear hb ho40) | ((with_reducible refine gate_dst (N := 9) rfl ?_); (try (refine gate_guard (by rfl) ?_; dsimp only)); refine Kd.R_lit Kd.string _ 9 ?hg (N := 9) ?hd (xs := ([(⟨#[97, 10]⟩ : ByteArray), (⟨#[99, 10]⟩ : ByteArray)] : List ByteArray)) (inner := [.string (⟨#[97, 10]⟩ : ByteArray), .string (⟨#[99, 10]⟩ : ByteArray)]) (ok := fun _ => True) (okp := fun _ => True) ?hr ?hp (fun _ hk => hk) trivial (Below.refl _ _) (Nat.le_refl _) (by simp) ?_; (case hd => rfl); (case hg => rfl); (case hr => first | (go_simp; done) | (go_simp; rfl)); (case hp => exact (Reps.one (show Kd.M Kd.string _ _ _ (⟨#[97, 10]⟩ : ByteArray) [.string (⟨#[97, 10]⟩ : ByteArray)] from rfl) (Reps.one (show Kd.M Kd.string _ _ _ (⟨#[99, 10]⟩ : ByteArray) [.string (⟨#[99, 10]⟩ : ByteArray)] from rfl) (Reps.none _ _)))); intro v108 w41 ho42 hb hg_ hnew_; clear hg_ hnew_; (first | rw [← Ny107.out] at ho42 | (simp only [Int.reduceToNat] at ho42; rw [← Ny107.out] at ho42)); have n0_ := Aside0.mk (Kd.R_elder' (by (with_reducible repeat (first | apply Kd.R_alloc | apply Kd.R_drewN | apply Kd.R_drew)); exact HO103.out) (Kd.R_base ho42) hb); have n1_ := Aside0.mk (Kd.R_elder' (by (with_reducible repeat (first | apply Kd.R_alloc | apply Kd.R_drewN | apply Kd.R_drew)); exact HO106.out) (Kd.R_base ho42) hb); have n2_ := Aside0.mk (Kd.R_lower (Kd.R_new' (Kd.R_new' ho42 (Kd.R_lt (by (with_reducible repeat (first | apply Kd.R_alloc | apply Kd.R_drewN | apply Kd.R_drew)); exact HO103.out))) (Kd.R_lt (by (with_reducible repeat (first | apply Kd.R_alloc | apply Kd.R_drewN | apply Kd.R_drew)); exact HO106.out))) (below_size (by repeat (first | (with_reducible first | exact HB.out | apply below_alloc | apply pw_below_drewN | apply below_drew1) | exact HB.out)))); have n3_ := Aside0.mk (below_step (by repeat (first | (with_reducible first | exact HB.out | apply below_alloc | apply pw_below_drewN | apply below_drew1) | exact HB.out)) hb); clear HO103; clear HO106; clear HB; have HO103 := n0_; have HO106 := n1_; have HO109 := n2_; have HB := n3_; clear n0_ n1_ n2_ n3_; clear hb ho42; obtain ⟨Ao43, co43, eo43⟩ := Kd.R_slice HO106.out; subst eo43; obtain ⟨Ao44, co44, eo44⟩ := Kd.R_slice HO109.out; subst eo44) | ((with_reducible refine gate_dst (N := 10) rfl ?_); (try (refine gate_guard (by rfl) ?_; dsimp only)); refine Kd.N_lit (Kd.slice 9 Kd.string) _ 34 ?hg (N' := 10) ?hd (xs := ([y104, y107] : List (List ByteArray))) (inner := [.slice Ao43 y104.length co43, .slice Ao44 y107.length co44]) (ok := (fun k_ => some k_ ≠ (v102 : Value).ownBlock)) (okp := (fun k_ => some k_ ≠ (v102 : Value).ownBlock)) ?hr ?hp (fun _ hk => hk) ((show ∀ k_, w41.heap.size ≤ k_ → (fun k_ => some k_ ≠ (v102 : Value).ownBlock) k_ from fun k_ hk => Kd.fresh' (Kd.R_lt (by (with_reducible repeat (first | apply Kd.R_alloc | apply Kd.R_drewN | apply Kd.R_drew)); exact HO103.out)) k_ hk) _ (Nat.le_refl _)) (Below.refl _ _) (Nat.le_refl _) (by simp) ?_; (case hd => rfl); (case hg => rfl); (case hr => first | (go_simp; done) | (go_simp; rfl)); (case hp => first | exact (Reps.one (show Kd.FK (Kd.slice 9 Kd.string) _ _ y104 [.slice Ao43 y104.length co43] from (Kd.FK_slice_mk (Kd.R_reads' (Kd.R_mono (ok' := (fun k_ => some k_ ≠ (v102 : Value).ownBlock)) (HO106.out) (fun k_ hk => hk.1.2))).2.1 (Kd.R_F (Kd.R_mono (ok' := (fun k_ => some k_ ≠ (v102 : Value).ownBlock)) (HO106.out) (fun k_ hk => hk.1.2))))) (Reps.one (show Kd.FK (Kd.slice 9 Kd.string) _ _ y107 [.slice Ao44 y107.length co44] from (Kd.FK_slice_mk (Kd.R_reads' (Kd.R_mono (ok' := (fun k_ => some k_ ≠ (v102 : Value).ownBlock)) (HO109.out) (fun k_ hk => hk.1.2))).2.1 (Kd.R_F (Kd.R_mono (ok' := (fun k_ => some k_ ≠ (v102 : Value).ownBlock)) (HO109.out) (fun k_ hk => hk.1.2))))) (Reps.none _ _))) | exact (Reps.one (show Kd.FK (Kd.slice 9 Kd.string) _ _ y104 [.slice Ao43 y104.length co43] from (Kd.FK_slice_mk (Kd.R_reads' (Kd.R_mono (ok' := (fun k_ => some k_ ≠ (v102 : Value).ownBlock)) (HO106.out) (fun k_ hk => hk.1.2))).2.1 (Kd.R_F (Kd.R_mono (ok' := (fun k_ => some k_ ≠ (v102 : Value).ownBlock)) (Kd.R_drewN HO106.out _) (fun k_ hk => hk.1.2))))) (Reps.one (show Kd.FK (Kd.slice 9 Kd.string) _ _ y107 [.slice Ao44 y107.length co44] from (Kd.FK_slice_mk (Kd.R_reads' (Kd.R_mono (ok' := (fun k_ => some k_ ≠ (v102 : Value).ownBlock)) (HO109.out) (fun k_ hk => hk.1.2))).2.1 (Kd.R_F (Kd.R_mono (ok' := (fun k_ => some k_ ≠ (v102 : Value).ownBlock)) (Kd.R_drewN HO109.out _) (fun k_ hk => hk.1.2))))) (Reps.none _ _)))); intro v111 w45 ho46 hb hg_ hnew_; clear hg_ hnew_; (first | rw [← Ny110.out] at ho46 | (simp only [Int.reduceToNat] at ho46; rw [← Ny110.out] at ho46)); have n0_ := Aside0.mk (Kd.R_below (by (with_reducible repeat (first | apply Kd.R_alloc | apply Kd.R_drewN | apply Kd.R_drew)); exact HO103.out) hb); have n1_ := Aside0.mk (Kd.N_lower ho46 (below_size (by repeat (first | (with_reducible first | exact HB.out | apply below_alloc | apply pw_below_drewN | apply below_drew1) | exact HB.out)))); have n2_ := Aside0.mk (below_step (by repeat (first | (with_reducible first | exact HB.out | apply below_alloc | apply pw_below_drewN | apply below_drew1) | exact HB.out)) hb); clear HO103; clear HB; clear HO106; clear HO109; have HO103 := n0_; have HO112 := n1_; have HB := n2_; clear n0_ n1_ n2_; clear hb ho46; obtain ⟨Ao47, co47, eo47⟩ := Kd.R_slice HO103.out; subst eo47; obtain ⟨Ao48, co48, eo48⟩ := Kd.N_slice HO112.out; subst eo48) | ((with_reducible refine gate_callee (f := 25) rfl ?_); refine goesL_ (some 11) rfl rfl Try.func25 (by kernel_rfl) rfl #[.slice Ao47 y101.length co47, .slice Ao48 y110.length co48] rfl (by (try simp only [List.map_toArray, List.map_cons, List.map_nil]); first | done | rfl | (simp only [List.length_drop, List.length_take]; rfl)) ?_; (with_reducible refine (table_Table.calls _ _ y101 _ _ y110 t113 t114 _ ?side1 ?side2 ?side3 ?side4 A1.out).mono ?_); (case side1 => repeat (first | exact (Kd.R_reads' HO103.out).2.2 | (with_reducible refine Kd.C_alloc ?_ _) | (with_reducible refine Kd.C_drewN ?_ _) | (with_reducible refine Kd.C_drew ?_))); (case side2 => exact (Kd.R_reads' HO103.out).2.1); (case side3 => repeat (first | exact (Kd.N_reads' HO112.out).2.2 | (with_reducible refine Kd.C_alloc ?_ _) | (with_reducible refine Kd.C_drewN ?_ _) | (with_reducible refine Kd.C_drew ?_))); (case side4 => exact (Kd.N_reads' HO112.out).2.1); rintro e w49 ⟨v115, rfl, ho0, hb⟩; refine ⟨_, rfl, ?_⟩; have n0_ := Aside0.mk (Kd.R_below (by (with_reducible repeat (first | apply Kd.R_alloc | apply Kd.R_drewN | apply Kd.R_drew)); exact HO103.out) hb); have n1_ := Aside0.mk (Kd.N_elder' (by (with_reducible repeat (first | apply Kd.N_alloc | apply Kd.N_drewN | apply Kd.N_drew)); exact HO112.out) (Kd.R_base ho0) hb); have n2_ := Aside0.mk (Kd.R_lower ho0 (below_size (by repeat (first | (with_reducible first | exact HB.out | apply below_alloc | apply pw_below_drewN | apply below_drew1) | exact HB.out)))); have n3_ := Aside0.mk (below_step (by repeat (first | (with_reducible first | exact HB.out | apply below_alloc | apply pw_below_drewN | apply below_drew1) | exact HB.out)) hb); clear HO103; clear HO112; clear HB; have HO103 := n0_; have HO112 := n1_; have HO116 := n2_; have HB := n3_; clear n0_ n1_ n2_ n3_; (try clear hb); (try clear hb2); (try clear hk); (try clear hi); (try clear ho0)) | ((with_reducible refine gate_callee (f := 25) rfl ?_); refine goesL_ (some 15) rfl rfl Try.func25 (by kernel_rfl) rfl #[.slice none 0 0, .slice none 0 0] rfl (by (try simp only [List.map_toArray, List.map_cons, List.map_nil]); first | done | rfl | (simp only [List.length_drop, List.length_take]; rfl)) ?_; (refine (table_Table.calls _ _ ([] : List ByteArray) _ _ ([] : List (List ByteArray)) t117 t118 _ ?side1 ?side2 ?side3 ?side4 A2.out).mono ?_); (case side1 => exact Kd.C_nil _ _); (case side2 => exact Nat.le_refl _); (case side3 => exact Kd.C_nil _ _); (case side4 => exact Nat.le_refl _); rintro e w50 ⟨v119, rfl, ho0, hb⟩; refine ⟨_, rfl, ?_⟩; have n0_ := Aside0.mk (Kd.R_below (by (with_reducible repeat (first | apply Kd.R_alloc | apply Kd.R_drewN | apply Kd.R_drew)); exact HO103.out) hb); have n1_ := Aside0.mk (Kd.N_elder' (by (with_reducible repeat (first | apply Kd.N_alloc | apply Kd.N_drewN | apply Kd.N_drew)); exact HO112.out) (Kd.R_base ho0) hb); have n2_ := Aside0.mk (Kd.R_elder' (by (with_reducible repeat (first | apply Kd.R_alloc | apply Kd.R_drewN | apply Kd.R_drew)); exact HO116.out) (Kd.R_base ho0) hb); have n3_ := Aside0.mk (Kd.R_lower (Kd.R_new' ho0 (Kd.R_lt (by (with_reducible repeat (first | apply Kd.R_alloc | apply Kd.R_drewN | apply Kd.R_drew)); exact HO116.out))) (below_size (by repeat (first | (with_reducible first | exact HB.out | apply below_alloc | apply pw_below_drewN | apply below_drew1) | exact HB.out)))); have n4_ := Aside0.mk (below_step (by repeat (first | (with_reducible first | exact HB.out | apply below_alloc | apply pw_below_drewN | apply below_drew1) | exact HB.out)) hb); clear HO103; clear HO112; clear HO116; clear HB; have HO103 := n0_; have HO112 := n1_; have HO116 := n2_; have HO120 := n3_; have HB := n4_; clear n0_ n1_ n2_ n3_ n4_; (try clear hb); (try clear hb2); (try clear hk); (try clear hi); (try clear ho0); obtain ⟨Ao51, co51, eo51⟩ := Kd.R_slice HO116.out; subst eo51) | ((with_reducible refine gate_callee (f := 28) rfl ?_); refine goesL_ (some 19) rfl rfl Try.func28 (by kernel_rfl) rfl #[.slice Ao51 t113.length co51, .int .i64 0] rfl (by (try simp only [List.map_toArray, List.map_cons, List.map_nil]); first | done | rfl | (simp only [List.length_drop, List.length_take]; rfl)) ?_; (with_reducible refine (table_Column.calls _ _ t113 0 t121 _ ?side1 ?side2 A3.out).mono ?_); (case side1 => repeat (first | exact (Kd.R_reads' HO116.out).2.2 | (with_reducible refine Kd.C_alloc ?_ _) | (with_reducible refine Kd.C_drewN ?_ _) | (with_reducible refine Kd.C_drew ?_))); (case side2 => exact (Kd.R_reads' HO116.out).2.1); rintro e w52 ⟨v122, rfl, ho0, hb⟩; refine ⟨_, rfl, ?_⟩; have n0_ := Aside0.mk (Kd.R_elder' (by (with_reducible repeat (first | apply Kd.R_alloc | apply Kd.R_drewN | apply Kd.R_drew)); exact HO103.out) (Kd.R_base ho0) hb); have n1_ := Aside0.mk (Kd.N_elder' (by (with_reducible repeat (first | apply Kd.N_alloc | apply Kd.N_drewN | apply Kd.N_drew)); exact HO112.out) (Kd.R_base ho0) hb); have n2_ := Aside0.mk (Kd.R_below (by (with_reducible repeat (first | apply Kd.R_alloc | apply Kd.R_drewN | apply Kd.R_drew)); exact HO116.out) hb); have n3_ := Aside0.mk (Kd.R_below (by (with_reducible repeat (first | apply Kd.R_alloc | apply Kd.R_drewN | apply Kd.R_drew)); exact HO120.out) hb); have n4_ := Aside0.mk (Kd.R_lower (Kd.R_new' ho0 (Kd.R_lt (by (with_reducible repeat (first | apply Kd.R_alloc | apply Kd.R_drewN | apply Kd.R_drew)); exact HO103.out))) (below_size (by repeat (first | (with_reducible first | exact HB.out | apply below_alloc | apply pw_below_drewN | apply below_drew1) | exact HB.out)))); have n5_ := Aside0.mk (below_step (by repeat (first | (with_reducible first | exact HB.out | apply below_alloc | apply pw_below_drewN | apply below_drew1) | exact HB.out)) hb); clear HO103; clear HO112; clear HO116; clear HO120; clear HB; have HO103 := n0_; have HO112 := n1_; have HO116 := n2_; have HO120 := n3_; have HO123 := n4_; have HB := n5_; clear n0_ n1_ n2_ n3_ n4_ n5_; (try clear hb); (try clear hb2); (try clear hk); (try clear hi); (try clear ho0); have p124 : 0 ≤ (0 : Int) := (by omega); have q124 : 0 < (t113.length : Int) := of_decide_eq_true (by first | (with_reducible assumption) | assumption); obtain ⟨ad124, e124, hx124_0, hx124_1⟩ := at_T37 (Kd.R_reads' HO116.out).2.2 0 p124 q124; cases e124; have qi124 : (0 < t113.length) = True := eq_true (by omega); (try rw [show ((0 : Int)).toNat = 0 from rfl] at hx124_0); (try rw [show 0 * 2 = 0 from rfl] at hx124_0); (try rw [Addr.add_zero'] at hx124_0); (try rw [show ((0 : Int)).toNat = 0 from rfl] at hx124_1); (try rw [show 0 * 2 = 0 from rfl] at hx124_1); (try rw [Addr.add_zero'] at hx124_1); replace p124 := eq_true p124; replace q124 := eq_true q124; have p125 : 0 ≤ (1 : Int) := (by omega); have q125 : 1 < (t113.length : Int) := of_decide_eq_true (by first | (with_reducible assumption) | assumption); obtain ⟨ad125, e125, hx125_0, hx125_1⟩ := at_T37 (Kd.R_reads' HO116.out).2.2 1 p125 q125; obtain rfl : ad124 = ad125 := (by injection e125); (try simp only [show (1 : Int).toNat = 1 from rfl, Nat.reduceMul, Nat.reduceEqDiff, Go.Addr.add, ↓reduceIte] at hx125_0); (try simp only [show (1 : Int).toNat = 1 from rfl, Nat.reduceMul, Nat.reduceEqDiff, Go.Addr.add, ↓reduceIte] at hx125_1); have qi125 : (1 < t113.length) = True := eq_true (by omega); (try rw [show ((1 : Int)).toNat = 1 from rfl] at hx125_0); (try rw [show 1 * 2 = 2 from rfl] at hx125_0); (try rw [show ((1 : Int)).toNat = 1 from rfl] at hx125_1); (try rw [show 1 * 2 = 2 from rfl] at hx125_1); replace p125 := eq_true p125; replace q125 := eq_true q125; have p126 : 0 ≤ (2 : Int) := (by omega); have q126 : 2 < (t113.length : Int) := of_decide_eq_true (by first | (with_reducible assumption) | assumption); obtain ⟨ad126, e126, hx126_0, hx126_1⟩ := at_T37 (Kd.R_reads' HO116.out).2.2 2 p126 q126; obtain rfl : ad124 = ad126 := (by injection e126); (try simp only [show (2 : Int).toNat = 2 from rfl, Nat.reduceMul, Nat.reduceEqDiff, Go.Addr.add, ↓reduceIte] at hx126_0); (try simp only [show (2 : Int).toNat = 2 from rfl, Nat.reduceMul, Nat.reduceEqDiff, Go.Addr.add, ↓reduceIte] at hx126_1); have qi126 : (2 < t113.length) = True := eq_true (by omega); (try rw [show ((2 : Int)).toNat = 2 from rfl] at hx126_0); (try rw [show 2 * 2 = 4 from rfl] at hx126_0); (try rw [show ((2 : Int)).toNat = 2 from rfl] at hx126_1); (try rw [show 2 * 2 = 4 from rfl] at hx126_1); replace p126 := eq_true p126; replace q126 := eq_true q126; have p127 : 0 ≤ (1 : Int) := (by omega); have q127 : 1 < (t113.length : Int) := of_decide_eq_true (by first | (with_reducible assumption) | assumption); obtain ⟨ad127, e127, hx127_0, hx127_1⟩ := at_T37 (Kd.R_reads' HO116.out).2.2 1 p127 q127; obtain rfl : ad124 = ad127 := (by injection e127); (try simp only [show (1 : Int).toNat = 1 from rfl, Nat.reduceMul, Nat.reduceEqDiff, Go.Addr.add, ↓reduceIte] at hx127_0); (try simp only [show (1 : Int).toNat = 1 from rfl, Nat.reduceMul, Nat.reduceEqDiff, Go.Addr.add, ↓reduceIte] at hx127_1); have qi127 : (1 < t113.length) = True := eq_true (by omega); (try rw [show ((1 : Int)).toNat = 1 from rfl] at hx127_0); (try rw [show 1 * 2 = 2 from rfl] at hx127_0); (try rw [show ((1 : Int)).toNat = 1 from rfl] at hx127_1); (try rw [show 1 * 2 = 2 from rfl] at hx127_1); replace p127 := eq_true p127; replace q127 := eq_true q127) | (go_at_call 32; (with_reducible refine (table_Lost.calls ((rd_T37 t113 1).f0) ((rd_T37 t113 1).f1) true _ A13.out).mono ?_); rintro e w53 ⟨rfl, hb⟩; have n0_ := Aside0.mk (Kd.R_below (by (with_reducible repeat (first | apply Kd.R_alloc | apply Kd.R_drewN | apply Kd.R_drew)); exact HO103.out) hb); have n1_ := Aside0.mk (Kd.N_below (by (with_reducible repeat (first | apply Kd.N_alloc | apply Kd.N_drewN | apply Kd.N_drew)); exact HO112.out) hb); have n2_ := Aside0.mk (Kd.R_below (by (with_reducible repeat (first | apply Kd.R_alloc | apply Kd.R_drewN | apply Kd.R_drew)); exact HO116.out) hb); have n3_ := Aside0.mk (Kd.R_below (by (with_reducible repeat (first | apply Kd.R_alloc | apply Kd.R_drewN | apply Kd.R_drew)); exact HO120.out) hb); have n4_ := Aside0.mk (Kd.R_below (by (with_reducible repeat (first | apply Kd.R_alloc | apply Kd.R_drewN | apply Kd.R_drew)); exact HO123.out) hb); have n5_ := Aside0.mk (below_step (by repeat (first | (with_reducible first | exact HB.out | apply below_alloc | apply pw_below_drewN | apply below_drew1) | exact HB.out)) hb); clear HO103; clear HO112; clear HO116; clear HO120; clear HO123; clear HB; have HO103 := n0_; have HO112 := n1_; have HO116 := n2_; have HO120 := n3_; have HO123 := n4_; have HB := n5_; clear n0_ n1_ n2_ n3_ n4_ n5_; (try clear hb); (try clear hb2); (try clear hk); (try clear hi); have p129 : 0 ≤ (2 : Int) := (by omega); have q129 : 2 < (t113.length : Int) := of_decide_eq_true (by first | (with_reducible assumption) | assumption); obtain ⟨ad129, e129, hx129_0, hx129_1⟩ := at_T37 (Kd.R_reads' HO116.out).2.2 2 p129 q129; obtain rfl : ad124 = ad129 := (by injection e129); (try simp only [show (2 : Int).toNat = 2 from rfl, Nat.reduceMul, Nat.reduceEqDiff, Go.Addr.add, ↓reduceIte] at hx129_0); (try simp only [show (2 : Int).toNat = 2 from rfl, Nat.reduceMul, Nat.reduceEqDiff, Go.Addr.add, ↓reduceIte] at hx129_1); have qi129 : (2 < t113.length) = True := eq_true (by omega); (try rw [show ((2 : Int)).toNat = 2 from rfl] at hx129_0); (try rw [show 2 * 2 = 4 from rfl] at hx129_0); (try rw [show ((2 : Int)).toNat = 2 from rfl] at hx129_1); (try rw [show 2 * 2 = 4 from rfl] at hx129_1); replace p129 := eq_true p129; replace q129 := eq_true q129) | (go_at_call 32; (with_reducible refine (table_Lost.calls ((rd_T37 t113 2).f0) ((rd_T37 t113 2).f1) false _ A15.out).mono ?_); rintro e w54 ⟨rfl, hb⟩; have n0_ := Aside0.mk (Kd.R_below (by (with_reducible repeat (first | apply Kd.R_alloc | apply Kd.R_drewN | apply Kd.R_drew)); exact HO103.out) hb); have n1_ := Aside0.mk (Kd.N_below (by (with_reducible repeat (first | apply Kd.N_alloc | apply Kd.N_drewN | apply Kd.N_drew)); exact HO112.out) hb); have n2_ := Aside0.mk (Kd.R_below (by (with_reducible repeat (first | apply Kd.R_alloc | apply Kd.R_drewN | apply Kd.R_drew)); exact HO116.out) hb); have n3_ := Aside0.mk (Kd.R_below (by (with_reducible repeat (first | apply Kd.R_alloc | apply Kd.R_drewN | apply Kd.R_drew)); exact HO120.out) hb); have n4_ := Aside0.mk (Kd.R_below (by (with_reducible repeat (first | apply Kd.R_alloc | apply Kd.R_drewN | apply Kd.R_drew)); exact HO123.out) hb); have n5_ := Aside0.mk (below_step (by repeat (first | (with_reducible first | exact HB.out | apply below_alloc | apply pw_below_drewN | apply below_drew1) | exact HB.out)) hb); clear HO103; clear HO112; clear HO116; clear HO120; clear HO123; clear HB; have HO103 := n0_; have HO112 := n1_; have HO116 := n2_; have HO120 := n3_; have HO123 := n4_; have HB := n5_; clear n0_ n1_ n2_ n3_ n4_ n5_; (try clear hb); (try clear hb2); (try clear hk); (try clear hi); obtain ⟨Ao55, co55, eo55⟩ := Kd.R_slice HO123.out; subst eo55) | (go_at_call 29; (with_reducible refine (table_Result.calls _ _ t113 t131 _ ?side1 ?side2 A36.out).mono ?_); (case side1 => repeat (first | exact (Kd.R_reads' HO116.out).2.2 | (with_reducible refine Kd.C_alloc ?_ _) | (with_reducible refine Kd.C_drewN ?_ _) | (with_reducible refine Kd.C_drew ?_))); (case side2 => exact (Kd.R_reads' HO116.out).2.1); rintro e w56 ⟨v132, rfl, ho0, hb⟩; have n0_ := Aside0.mk (Kd.R_elder' (by (with_reducible repeat (first | apply Kd.R_alloc | apply Kd.R_drewN | apply Kd.R_drew)); exact HO103.out) (Kd.R_base ho0) hb); have n1_ := Aside0.mk (Kd.N_elder' (by (with_reducible repeat (first | apply Kd.N_alloc | apply Kd.N_drewN | apply Kd.N_drew)); exact HO112.out) (Kd.R_base ho0) hb); have n2_ := Aside0.mk (Kd.R_below (by (with_reducible repeat (first | apply Kd.R_alloc | apply Kd.R_drewN | apply Kd.R_drew)); exact HO116.out) hb); have n3_ := Aside0.mk (Kd.R_below (by (with_reducible repeat (first | apply Kd.R_alloc | apply Kd.R_drewN | apply Kd.R_drew)); exact HO120.out) hb); have n4_ := Aside0.mk (Kd.R_elder' (by (with_reducible repeat (first | apply Kd.R_alloc | apply Kd.R_drewN | apply Kd.R_drew)); exact HO123.out) (Kd.R_base ho0) hb); have n5_ := Aside0.mk (Kd.R_lower (Kd.R_new' (Kd.R_new' ho0 (Kd.R_lt (by (with_reducible repeat (first | apply Kd.R_alloc | apply Kd.R_drewN | apply Kd.R_drew)); exact HO103.out))) (Kd.R_lt (by (with_reducible repeat (first | apply Kd.R_alloc | apply Kd.R_drewN | apply Kd.R_drew)); exact HO123.out))) (below_size (by repeat (first | (with_reducible first | exact HB.out | apply below_alloc | apply pw_below_drewN | apply below_drew1) | exact HB.out)))); have n6_ := Aside0.mk (below_step (by repeat (first | (with_reducible first | exact HB.out | apply below_alloc | apply pw_below_drewN | apply below_drew1) | exact HB.out)) hb); clear HO103; clear HO112; clear HO116; clear HO120; clear HO123; clear HB; have HO103 := n0_; have HO112 := n1_; have HO116 := n2_; have HO120 := n3_; have HO123 := n4_; have HO133 := n5_; have HB := n6_; clear n0_ n1_ n2_ n3_ n4_ n5_ n6_; (try clear hb); (try clear hb2); (try clear hk); (try clear hi); (try clear ho0); obtain ⟨Ao57, co57, eo57⟩ := Kd.R_slice HO133.out; subst eo57))
                          go_ret
                          exact ⟨by first | rfl | (simp [errW_none, errW_some] <;> rfl) | (simp [*, errW_none, errW_some] <;> rfl), by repeat (first | (with_reducible first | exact HB.out | apply below_alloc | apply pw_below_drewN | apply below_drew1) | exact HB.out)⟩
                        · rw [if_neg c35] at H
                          have c35b0 : ((t121.length : Int) == 2) = false := beq_eq_false_iff_ne.mpr c35
                          have c35b1 : ((t121.length : Int) != 2) = true := bne_iff_ne.mpr c35
                          exact absurd (Option.some.inj H) (by rw [hrt_]; decide)
                    · replace c14 := Bool.eq_false_iff.mpr c14
                      subst c14
                      have H1 : (some false) = some r := by rw [if_neg (show ¬ (false = true) by decide)] at H; exact H
                      clear H
                      have H := H1
                      clear H1
                      exact absurd (Option.some.inj H) (by rw [hrt_]; decide)
                  · rw [if_neg c12] at H
                    have c12b0 : (((rd_T37 t113 2).f0).toList == ([43, 32] : List UInt8)) = false := beq_eq_false_iff_ne.mpr c12
                    have c12b1 : (((rd_T37 t113 2).f0).toList != ([43, 32] : List UInt8)) = true := bne_iff_ne.mpr c12
                    exact absurd (Option.some.inj H) (by rw [hrt_]; decide)
                · rw [if_neg c11] at H
                  exact absurd H (by simp)
              · rw [if_neg c10] at H
                have c10b0 : ((((rd_T37 t113 1).f0).toList) == ([45, 32] : List UInt8) && ((((rd_T37 t113 1).f1).toList) == ([98, 10] : List UInt8))) = false := by simpa using c10
                (try (have c10b1 : decide ((((rd_T37 t113 1).f0).toList) = ([45, 32] : List UInt8) && ((((rd_T37 t113 1).f1).toList) == ([98, 10] : List UInt8))) = false := by simpa using c10))
                (try (have c10b2 : ((((rd_T37 t113 1).f0).toList) == ([45, 32] : List UInt8) && ((((rd_T37 t113 1).f1).toList) == ([98, 10] : List UInt8))) = false := by simpa using c10))
                (try (have c10b3 : ¬ ((((rd_T37 t113 1).f0).toList) = ([45, 32] : List UInt8) && ((((rd_T37 t113 1).f1).toList) == ([98, 10] : List UInt8))) := by simpa using c10))
                clear c10
                exact absurd (Option.some.inj H) (by rw [hrt_]; decide)
            · rw [if_neg c9] at H
              exact absurd H (by simp)
          · rw [if_neg c8] at H
            have c8b0 : (((rd_T37 t113 0).f0).toList == ([32, 32] : List UInt8)) = false := beq_eq_false_iff_ne.mpr c8
            have c8b1 : (((rd_T37 t113 0).f0).toList != ([32, 32] : List UInt8)) = true := bne_iff_ne.mpr c8
            exact absurd (Option.some.inj H) (by rw [hrt_]; decide)
        · rw [if_neg c7] at H
          exact absurd H (by simp)
      · rw [if_neg c6] at H
        have c6b0 : ((t113.length : Int) == 3) = false := beq_eq_false_iff_ne.mpr c6
        have c6b1 : ((t113.length : Int) != 3) = true := bne_iff_ne.mpr c6
        exact absurd (Option.some.inj H) (by rw [hrt_]; decide)
    · rw [if_neg c5] at H
      have c5b0 : (t118 == 1) = false := beq_eq_false_iff_ne.mpr c5
      have c5b1 : (t118 != 1) = true := bne_iff_ne.mpr c5
      exact absurd (Option.some.inj H) (by rw [hrt_]; decide)
  · rw [if_neg c4] at H
    have c4b0 : (t114 == 0) = false := beq_eq_false_iff_ne.mpr c4
    have c4b1 : (t114 != 0) = true := bne_iff_ne.mpr c4
    exact absurd (Option.some.inj H) (by rw [hrt_]; decide)
def sennitlaw20_TableTells.f (k : Nat) (l0 : List ByteArray) (l1 : List (List ByteArray)) : Option (Bool) := (sennitlaw20_awake.f).bind fun t134 => ((sennitref20_Few.f k l0 l1).bind fun t135 => (if t135 = true then ((table_Table.f l0 l1).bind fun bt136 => ((sennitref20_Table.f k l0 l1).bind fun bt140 => (if t134 = true then (if bt136.2 = bt140.2 then ((sennitref19_Same.f k bt136.1 bt140.1).bind fun t144 => (some t144)) else (some false)) else (some false)))) else (some t134)))
set_option maxHeartbeats 8000000 in
set_option maxRecDepth 100000 in
theorem sennitlaw20_TableTells.calls (k : Nat) (A0 : Option Addr) (c0 : Nat) (l0 : List ByteArray) (A1 : Option Addr) (c1 : Nat) (l1 : List (List ByteArray)) (r : Bool) (w : World) (hr0 : Kd.C Kd.string w A0 l0.length l0) (hc0 : l0.length ≤ c0) (hr1 : Kd.C (Kd.slice 9 Kd.string) w A1 l1.length l1) (hc1 : l1.length ≤ c1) (h : sennitlaw20_TableTells.f k l0 l1 = some r) :
    Calls Try.prog 9 #[.slice A0 l0.length c0, .slice A1 l1.length c1] w fun e w' => e = .returned (.bool r) ∧ Below w.heap.size w w' := by
  have HR0 := Aside0.mk hr0
  have HC0 := Aside0.mk hc0
  clear hr0 hc0
  have HR1 := Aside0.mk hr1
  have HC1 := Aside0.mk hc1
  clear hr1 hc1
  have HB := Aside0.mk (Below.refl w.heap.size w)
  have H : ((sennitlaw20_awake.f).bind fun t134 => ((sennitref20_Few.f k l0 l1).bind fun t135 => (if t135 = true then ((table_Table.f l0 l1).bind fun bt136 => ((sennitref20_Table.f k l0 l1).bind fun bt140 => (if t134 = true then (if bt136.2 = bt140.2 then ((sennitref19_Same.f k bt136.1 bt140.1).bind fun t144 => (some t144)) else (some false)) else (some false)))) else (some t134)))) = some r := h
  clear h
  replace H := Option.bind_eq_some_iff.mp H
  obtain ⟨t134, A30, H⟩ := H
  replace H : ((sennitref20_Few.f k l0 l1).bind fun t135 => (if t135 = true then ((table_Table.f l0 l1).bind fun bt136 => ((sennitref20_Table.f k l0 l1).bind fun bt140 => (if t134 = true then (if bt136.2 = bt140.2 then ((sennitref19_Same.f k bt136.1 bt140.1).bind fun t144 => (some t144)) else (some false)) else (some false)))) else (some t134))) = some r := H
  have A3 := Aside0.mk A30
  clear A30
  replace H := Option.bind_eq_some_iff.mp H
  obtain ⟨t135, A40, H⟩ := H
  replace H : (if t135 = true then ((table_Table.f l0 l1).bind fun bt136 => ((sennitref20_Table.f k l0 l1).bind fun bt140 => (if t134 = true then (if bt136.2 = bt140.2 then ((sennitref19_Same.f k bt136.1 bt140.1).bind fun t144 => (some t144)) else (some false)) else (some false)))) else (some t134)) = some r := H
  have A4 := Aside0.mk A40
  clear A40
  by_cases c5 : t135 = true
  · subst c5
    have H1 : ((table_Table.f l0 l1).bind fun bt136 => ((sennitref20_Table.f k l0 l1).bind fun bt140 => (if t134 = true then (if bt136.2 = bt140.2 then ((sennitref19_Same.f k bt136.1 bt140.1).bind fun t144 => (some t144)) else (some false)) else (some false)))) = some r := by rw [if_pos rfl] at H; exact H
    clear H
    have H := H1
    clear H1
    replace H := Option.bind_eq_some_iff.mp H
    obtain ⟨⟨t136, t137⟩, A60, H⟩ := H
    replace H : ((sennitref20_Table.f k l0 l1).bind fun bt140 => (if t134 = true then (if t137 = bt140.2 then ((sennitref19_Same.f k t136 bt140.1).bind fun t144 => (some t144)) else (some false)) else (some false))) = some r := H
    have A6 := Aside0.mk A60
    clear A60
    replace H := Option.bind_eq_some_iff.mp H
    obtain ⟨⟨t140, t143⟩, A70, H⟩ := H
    replace H : (if t134 = true then (if t137 = t143 then ((sennitref19_Same.f k t136 t140).bind fun t144 => (some t144)) else (some false)) else (some false)) = some r := H
    have A7 := Aside0.mk A70
    clear A70
    by_cases c8 : t134 = true
    · subst c8
      have H1 : (if t137 = t143 then ((sennitref19_Same.f k t136 t140).bind fun t144 => (some t144)) else (some false)) = some r := by rw [if_pos rfl] at H; exact H
      clear H
      have H := H1
      clear H1
      by_cases c9 : t137 = t143
      · rw [if_pos c9] at H
        have c9b0 : (t137 == t143) = true := beq_iff_eq.mpr c9
        have c9b1 : (t137 != t143) = false := bne_eq_false_iff_eq.mpr c9
        clear c9
        replace H := Option.bind_eq_some_iff.mp H
        obtain ⟨t144, A100, H⟩ := H
        replace H : (some t144) = some r := H
        have A10 := Aside0.mk A100
        clear A100
        obtain rfl := Option.some.inj H
        go_enter Try.func9, Try.ntmps9
        go_wp2_with (first | ((with_reducible refine gate_callee (f := 23) rfl ?_); refine goesL_ (some 10) rfl rfl Try.func23 (by kernel_rfl) rfl #[] rfl (by (try simp only [List.map_toArray, List.map_cons, List.map_nil]); first | done | rfl | (simp only [List.length_drop, List.length_take]; rfl)) ?_; (with_reducible refine (sennitlaw20_awake.calls  true _ A3.out).mono ?_); rintro e w11 ⟨rfl, hb⟩; refine ⟨_, rfl, ?_⟩; have n0_ := Aside0.mk (below_step (by repeat (first | (with_reducible first | exact HB.out | apply below_alloc | apply pw_below_drewN | apply below_drew1) | exact HB.out)) hb); clear HB; have HB := n0_; clear n0_; (try clear hb); (try clear hb2); (try clear hk); (try clear hi)) | ((with_reducible refine gate_callee (f := 24) rfl ?_); refine goesL_ (some 13) rfl rfl Try.func24 (by kernel_rfl) rfl #[.slice A0 l0.length c0, .slice A1 l1.length c1] rfl (by (try simp only [List.map_toArray, List.map_cons, List.map_nil]); first | done | rfl | (simp only [List.length_drop, List.length_take]; rfl)) ?_; (with_reducible refine (sennitref20_Few.calls k _ _ l0 _ _ l1 true _ ?side1 ?side2 ?side3 ?side4 A4.out).mono ?_); (case side1 => repeat (first | exact (Kd.C_below HR0.out HB.out) | (with_reducible refine Kd.C_alloc ?_ _) | (with_reducible refine Kd.C_drewN ?_ _) | (with_reducible refine Kd.C_drew ?_))); (case side2 => exact HC0.out); (case side3 => repeat (first | exact (Kd.C_below HR1.out HB.out) | (with_reducible refine Kd.C_alloc ?_ _) | (with_reducible refine Kd.C_drewN ?_ _) | (with_reducible refine Kd.C_drew ?_))); (case side4 => exact HC1.out); rintro e w' ⟨rfl, ⟨nd, rfl⟩⟩; refine ⟨_, rfl, ?_⟩) | ((with_reducible refine gate_callee (f := 25) rfl ?_); refine goesL_ (some 19) rfl rfl Try.func25 (by kernel_rfl) rfl #[.slice A0 l0.length c0, .slice A1 l1.length c1] rfl (by (try simp only [List.map_toArray, List.map_cons, List.map_nil]); first | done | rfl | (simp only [List.length_drop, List.length_take]; rfl)) ?_; (with_reducible refine (table_Table.calls _ _ l0 _ _ l1 t136 t137 _ ?side1 ?side2 ?side3 ?side4 A6.out).mono ?_); (case side1 => repeat (first | exact (Kd.C_below HR0.out (by repeat (first | (with_reducible first | exact HB.out | apply below_alloc | apply pw_below_drewN | apply below_drew1) | exact HB.out))) | (with_reducible refine Kd.C_alloc ?_ _) | (with_reducible refine Kd.C_drewN ?_ _) | (with_reducible refine Kd.C_drew ?_))); (case side2 => exact HC0.out); (case side3 => repeat (first | exact (Kd.C_below HR1.out (by repeat (first | (with_reducible first | exact HB.out | apply below_alloc | apply pw_below_drewN | apply below_drew1) | exact HB.out))) | (with_reducible refine Kd.C_alloc ?_ _) | (with_reducible refine Kd.C_drewN ?_ _) | (with_reducible refine Kd.C_drew ?_))); (case side4 => exact HC1.out); rintro e w12 ⟨v138, rfl, ho0, hb⟩; refine ⟨_, rfl, ?_⟩; have n0_ := Aside0.mk (Kd.R_lower ho0 (below_size (by repeat (first | (with_reducible first | exact HB.out | apply below_alloc | apply pw_below_drewN | apply below_drew1) | exact HB.out)))); have n1_ := Aside0.mk (below_step (by repeat (first | (with_reducible first | exact HB.out | apply below_alloc | apply pw_below_drewN | apply below_drew1) | exact HB.out)) hb); clear HB; have HO139 := n0_; have HB := n1_; clear n0_ n1_; (try clear hb); (try clear hb2); (try clear hk); (try clear hi); (try clear ho0)) | ((with_reducible refine gate_callee (f := 26) rfl ?_); refine goesL_ (some 25) rfl rfl Try.func26 (by kernel_rfl) rfl #[.slice A0 l0.length c0, .slice A1 l1.length c1] rfl (by (try simp only [List.map_toArray, List.map_cons, List.map_nil]); first | done | rfl | (simp only [List.length_drop, List.length_take]; rfl)) ?_; (with_reducible refine (sennitref20_Table.calls k (fun k_ => k_ < w.heap.size) _ _ l0 (fun k_ => k_ < w.heap.size) _ _ l1 t140 t143 _ ?side1 ?side2 A7.out).mono ?_); (case side1 => exact Kd.V_mk HC0.out (Kd.F_below (Kd.C_F Kd.heap_string HR0.out) (by repeat (first | (with_reducible first | exact HB.out | apply below_alloc | apply pw_below_drewN | apply below_drew1) | exact HB.out)))); (case side2 => exact Kd.V_mk HC1.out (Kd.F_below (Kd.C_F (Kd.heap_slice 9 Kd.heap_string) HR1.out) (by repeat (first | (with_reducible first | exact HB.out | apply below_alloc | apply pw_below_drewN | apply below_drew1) | exact HB.out)))); rintro e w13 ⟨v141, rfl, ho0, hb⟩; refine ⟨_, rfl, ?_⟩; have n0_ := Aside0.mk (Kd.R_elder' (by (with_reducible repeat (first | apply Kd.R_alloc | apply Kd.R_drewN | apply Kd.R_drew)); exact HO139.out) (Kd.R_base ho0) hb); have n1_ := Aside0.mk (Kd.R_lower (Kd.R_new' (Kd.R_mono (ok' := fun k_ => True) ho0 (fun _ hk_ => trivial)) (Kd.R_lt (by (with_reducible repeat (first | apply Kd.R_alloc | apply Kd.R_drewN | apply Kd.R_drew)); exact HO139.out))) (below_size (by repeat (first | (with_reducible first | exact HB.out | apply below_alloc | apply pw_below_drewN | apply below_drew1) | exact HB.out)))); have n2_ := Aside0.mk (below_step (by repeat (first | (with_reducible first | exact HB.out | apply below_alloc | apply pw_below_drewN | apply below_drew1) | exact HB.out)) hb); clear HO139; clear HB; have HO139 := n0_; have HO142 := n1_; have HB := n2_; clear n0_ n1_ n2_; (try clear hb); (try clear hb2); (try clear hk); (try clear hi); (try clear ho0); obtain ⟨Ao14, co14, eo14⟩ := Kd.R_slice HO139.out; subst eo14; obtain ⟨Ao15, co15, eo15⟩ := Kd.R_slice HO142.out; subst eo15) | (go_at_call 19; (with_reducible refine (sennitref19_Same.calls k _ _ t136 _ _ t140 t144 _ ?side1 ?side2 ?side3 ?side4 A10.out).mono ?_); (case side1 => repeat (first | exact (Kd.R_reads' HO139.out).2.2 | (with_reducible refine Kd.C_alloc ?_ _) | (with_reducible refine Kd.C_drewN ?_ _) | (with_reducible refine Kd.C_drew ?_))); (case side2 => exact (Kd.R_reads' HO139.out).2.1); (case side3 => repeat (first | exact (Kd.R_reads' HO142.out).2.2 | (with_reducible refine Kd.C_alloc ?_ _) | (with_reducible refine Kd.C_drewN ?_ _) | (with_reducible refine Kd.C_drew ?_))); (case side4 => exact (Kd.R_reads' HO142.out).2.1); rintro e w' ⟨rfl, ⟨nd, rfl⟩⟩))
        go_ret
        exact ⟨by first | rfl | (simp [errW_none, errW_some] <;> rfl) | (simp [*, errW_none, errW_some] <;> rfl), by repeat (first | (with_reducible first | exact HB.out | apply below_alloc | apply pw_below_drewN | apply below_drew1) | exact HB.out)⟩
      · rw [if_neg c9] at H
        have c9b0 : (t137 == t143) = false := beq_eq_false_iff_ne.mpr c9
        have c9b1 : (t137 != t143) = true := bne_iff_ne.mpr c9
        obtain rfl := Option.some.inj H
        go_enter Try.func9, Try.ntmps9
        go_wp2_with (first | ((with_reducible refine gate_callee (f := 23) rfl ?_); refine goesL_ (some 10) rfl rfl Try.func23 (by kernel_rfl) rfl #[] rfl (by (try simp only [List.map_toArray, List.map_cons, List.map_nil]); first | done | rfl | (simp only [List.length_drop, List.length_take]; rfl)) ?_; (with_reducible refine (sennitlaw20_awake.calls  true _ A3.out).mono ?_); rintro e w16 ⟨rfl, hb⟩; refine ⟨_, rfl, ?_⟩; have n0_ := Aside0.mk (below_step (by repeat (first | (with_reducible first | exact HB.out | apply below_alloc | apply pw_below_drewN | apply below_drew1) | exact HB.out)) hb); clear HB; have HB := n0_; clear n0_; (try clear hb); (try clear hb2); (try clear hk); (try clear hi)) | ((with_reducible refine gate_callee (f := 24) rfl ?_); refine goesL_ (some 13) rfl rfl Try.func24 (by kernel_rfl) rfl #[.slice A0 l0.length c0, .slice A1 l1.length c1] rfl (by (try simp only [List.map_toArray, List.map_cons, List.map_nil]); first | done | rfl | (simp only [List.length_drop, List.length_take]; rfl)) ?_; (with_reducible refine (sennitref20_Few.calls k _ _ l0 _ _ l1 true _ ?side1 ?side2 ?side3 ?side4 A4.out).mono ?_); (case side1 => repeat (first | exact (Kd.C_below HR0.out HB.out) | (with_reducible refine Kd.C_alloc ?_ _) | (with_reducible refine Kd.C_drewN ?_ _) | (with_reducible refine Kd.C_drew ?_))); (case side2 => exact HC0.out); (case side3 => repeat (first | exact (Kd.C_below HR1.out HB.out) | (with_reducible refine Kd.C_alloc ?_ _) | (with_reducible refine Kd.C_drewN ?_ _) | (with_reducible refine Kd.C_drew ?_))); (case side4 => exact HC1.out); rintro e w' ⟨rfl, ⟨nd, rfl⟩⟩; refine ⟨_, rfl, ?_⟩) | ((with_reducible refine gate_callee (f := 25) rfl ?_); refine goesL_ (some 19) rfl rfl Try.func25 (by kernel_rfl) rfl #[.slice A0 l0.length c0, .slice A1 l1.length c1] rfl (by (try simp only [List.map_toArray, List.map_cons, List.map_nil]); first | done | rfl | (simp only [List.length_drop, List.length_take]; rfl)) ?_; (with_reducible refine (table_Table.calls _ _ l0 _ _ l1 t136 t137 _ ?side1 ?side2 ?side3 ?side4 A6.out).mono ?_); (case side1 => repeat (first | exact (Kd.C_below HR0.out (by repeat (first | (with_reducible first | exact HB.out | apply below_alloc | apply pw_below_drewN | apply below_drew1) | exact HB.out))) | (with_reducible refine Kd.C_alloc ?_ _) | (with_reducible refine Kd.C_drewN ?_ _) | (with_reducible refine Kd.C_drew ?_))); (case side2 => exact HC0.out); (case side3 => repeat (first | exact (Kd.C_below HR1.out (by repeat (first | (with_reducible first | exact HB.out | apply below_alloc | apply pw_below_drewN | apply below_drew1) | exact HB.out))) | (with_reducible refine Kd.C_alloc ?_ _) | (with_reducible refine Kd.C_drewN ?_ _) | (with_reducible refine Kd.C_drew ?_))); (case side4 => exact HC1.out); rintro e w17 ⟨v138, rfl, ho0, hb⟩; refine ⟨_, rfl, ?_⟩; have n0_ := Aside0.mk (Kd.R_lower ho0 (below_size (by repeat (first | (with_reducible first | exact HB.out | apply below_alloc | apply pw_below_drewN | apply below_drew1) | exact HB.out)))); have n1_ := Aside0.mk (below_step (by repeat (first | (with_reducible first | exact HB.out | apply below_alloc | apply pw_below_drewN | apply below_drew1) | exact HB.out)) hb); clear HB; have HO139 := n0_; have HB := n1_; clear n0_ n1_; (try clear hb); (try clear hb2); (try clear hk); (try clear hi); (try clear ho0)) | ((with_reducible refine gate_callee (f := 26) rfl ?_); refine goesL_ (some 25) rfl rfl Try.func26 (by kernel_rfl) rfl #[.slice A0 l0.length c0, .slice A1 l1.length c1] rfl (by (try simp only [List.map_toArray, List.map_cons, List.map_nil]); first | done | rfl | (simp only [List.length_drop, List.length_take]; rfl)) ?_; (with_reducible refine (sennitref20_Table.calls k (fun k_ => k_ < w.heap.size) _ _ l0 (fun k_ => k_ < w.heap.size) _ _ l1 t140 t143 _ ?side1 ?side2 A7.out).mono ?_); (case side1 => exact Kd.V_mk HC0.out (Kd.F_below (Kd.C_F Kd.heap_string HR0.out) (by repeat (first | (with_reducible first | exact HB.out | apply below_alloc | apply pw_below_drewN | apply below_drew1) | exact HB.out)))); (case side2 => exact Kd.V_mk HC1.out (Kd.F_below (Kd.C_F (Kd.heap_slice 9 Kd.heap_string) HR1.out) (by repeat (first | (with_reducible first | exact HB.out | apply below_alloc | apply pw_below_drewN | apply below_drew1) | exact HB.out)))); rintro e w18 ⟨v141, rfl, ho0, hb⟩; refine ⟨_, rfl, ?_⟩; have n0_ := Aside0.mk (Kd.R_elder' (by (with_reducible repeat (first | apply Kd.R_alloc | apply Kd.R_drewN | apply Kd.R_drew)); exact HO139.out) (Kd.R_base ho0) hb); have n1_ := Aside0.mk (Kd.R_lower (Kd.R_new' (Kd.R_mono (ok' := fun k_ => True) ho0 (fun _ hk_ => trivial)) (Kd.R_lt (by (with_reducible repeat (first | apply Kd.R_alloc | apply Kd.R_drewN | apply Kd.R_drew)); exact HO139.out))) (below_size (by repeat (first | (with_reducible first | exact HB.out | apply below_alloc | apply pw_below_drewN | apply below_drew1) | exact HB.out)))); have n2_ := Aside0.mk (below_step (by repeat (first | (with_reducible first | exact HB.out | apply below_alloc | apply pw_below_drewN | apply below_drew1) | exact HB.out)) hb); clear HO139; clear HB; have HO139 := n0_; have HO142 := n1_; have HB := n2_; clear n0_ n1_ n2_; (try clear hb); (try clear hb2); (try clear hk); (try clear hi); (try clear ho0)))
        go_ret
        exact ⟨by first | rfl | (simp [errW_none, errW_some] <;> rfl) | (simp [*, errW_none, errW_some] <;> rfl), by repeat (first | (with_reducible first | exact HB.out | apply below_alloc | apply pw_below_drewN | apply below_drew1) | exact HB.out)⟩
    · replace c8 := Bool.eq_false_iff.mpr c8
      subst c8
      have H1 : (some false) = some r := by rw [if_neg (show ¬ (false = true) by decide)] at H; exact H
      clear H
      have H := H1
      clear H1
      obtain rfl := Option.some.inj H
      go_enter Try.func9, Try.ntmps9
      go_wp2_with (first | ((with_reducible refine gate_callee (f := 23) rfl ?_); refine goesL_ (some 10) rfl rfl Try.func23 (by kernel_rfl) rfl #[] rfl (by (try simp only [List.map_toArray, List.map_cons, List.map_nil]); first | done | rfl | (simp only [List.length_drop, List.length_take]; rfl)) ?_; (with_reducible refine (sennitlaw20_awake.calls  false _ A3.out).mono ?_); rintro e w19 ⟨rfl, hb⟩; refine ⟨_, rfl, ?_⟩; have n0_ := Aside0.mk (below_step (by repeat (first | (with_reducible first | exact HB.out | apply below_alloc | apply pw_below_drewN | apply below_drew1) | exact HB.out)) hb); clear HB; have HB := n0_; clear n0_; (try clear hb); (try clear hb2); (try clear hk); (try clear hi)) | ((with_reducible refine gate_callee (f := 24) rfl ?_); refine goesL_ (some 13) rfl rfl Try.func24 (by kernel_rfl) rfl #[.slice A0 l0.length c0, .slice A1 l1.length c1] rfl (by (try simp only [List.map_toArray, List.map_cons, List.map_nil]); first | done | rfl | (simp only [List.length_drop, List.length_take]; rfl)) ?_; (with_reducible refine (sennitref20_Few.calls k _ _ l0 _ _ l1 true _ ?side1 ?side2 ?side3 ?side4 A4.out).mono ?_); (case side1 => repeat (first | exact (Kd.C_below HR0.out HB.out) | (with_reducible refine Kd.C_alloc ?_ _) | (with_reducible refine Kd.C_drewN ?_ _) | (with_reducible refine Kd.C_drew ?_))); (case side2 => exact HC0.out); (case side3 => repeat (first | exact (Kd.C_below HR1.out HB.out) | (with_reducible refine Kd.C_alloc ?_ _) | (with_reducible refine Kd.C_drewN ?_ _) | (with_reducible refine Kd.C_drew ?_))); (case side4 => exact HC1.out); rintro e w' ⟨rfl, ⟨nd, rfl⟩⟩; refine ⟨_, rfl, ?_⟩) | ((with_reducible refine gate_callee (f := 25) rfl ?_); refine goesL_ (some 19) rfl rfl Try.func25 (by kernel_rfl) rfl #[.slice A0 l0.length c0, .slice A1 l1.length c1] rfl (by (try simp only [List.map_toArray, List.map_cons, List.map_nil]); first | done | rfl | (simp only [List.length_drop, List.length_take]; rfl)) ?_; (with_reducible refine (table_Table.calls _ _ l0 _ _ l1 t136 t137 _ ?side1 ?side2 ?side3 ?side4 A6.out).mono ?_); (case side1 => repeat (first | exact (Kd.C_below HR0.out (by repeat (first | (with_reducible first | exact HB.out | apply below_alloc | apply pw_below_drewN | apply below_drew1) | exact HB.out))) | (with_reducible refine Kd.C_alloc ?_ _) | (with_reducible refine Kd.C_drewN ?_ _) | (with_reducible refine Kd.C_drew ?_))); (case side2 => exact HC0.out); (case side3 => repeat (first | exact (Kd.C_below HR1.out (by repeat (first | (with_reducible first | exact HB.out | apply below_alloc | apply pw_below_drewN | apply below_drew1) | exact HB.out))) | (with_reducible refine Kd.C_alloc ?_ _) | (with_reducible refine Kd.C_drewN ?_ _) | (with_reducible refine Kd.C_drew ?_))); (case side4 => exact HC1.out); rintro e w20 ⟨v138, rfl, ho0, hb⟩; refine ⟨_, rfl, ?_⟩; have n0_ := Aside0.mk (Kd.R_lower ho0 (below_size (by repeat (first | (with_reducible first | exact HB.out | apply below_alloc | apply pw_below_drewN | apply below_drew1) | exact HB.out)))); have n1_ := Aside0.mk (below_step (by repeat (first | (with_reducible first | exact HB.out | apply below_alloc | apply pw_below_drewN | apply below_drew1) | exact HB.out)) hb); clear HB; have HO139 := n0_; have HB := n1_; clear n0_ n1_; (try clear hb); (try clear hb2); (try clear hk); (try clear hi); (try clear ho0)) | ((with_reducible refine gate_callee (f := 26) rfl ?_); refine goesL_ (some 25) rfl rfl Try.func26 (by kernel_rfl) rfl #[.slice A0 l0.length c0, .slice A1 l1.length c1] rfl (by (try simp only [List.map_toArray, List.map_cons, List.map_nil]); first | done | rfl | (simp only [List.length_drop, List.length_take]; rfl)) ?_; (with_reducible refine (sennitref20_Table.calls k (fun k_ => k_ < w.heap.size) _ _ l0 (fun k_ => k_ < w.heap.size) _ _ l1 t140 t143 _ ?side1 ?side2 A7.out).mono ?_); (case side1 => exact Kd.V_mk HC0.out (Kd.F_below (Kd.C_F Kd.heap_string HR0.out) (by repeat (first | (with_reducible first | exact HB.out | apply below_alloc | apply pw_below_drewN | apply below_drew1) | exact HB.out)))); (case side2 => exact Kd.V_mk HC1.out (Kd.F_below (Kd.C_F (Kd.heap_slice 9 Kd.heap_string) HR1.out) (by repeat (first | (with_reducible first | exact HB.out | apply below_alloc | apply pw_below_drewN | apply below_drew1) | exact HB.out)))); rintro e w21 ⟨v141, rfl, ho0, hb⟩; refine ⟨_, rfl, ?_⟩; have n0_ := Aside0.mk (Kd.R_elder' (by (with_reducible repeat (first | apply Kd.R_alloc | apply Kd.R_drewN | apply Kd.R_drew)); exact HO139.out) (Kd.R_base ho0) hb); have n1_ := Aside0.mk (Kd.R_lower (Kd.R_new' (Kd.R_mono (ok' := fun k_ => True) ho0 (fun _ hk_ => trivial)) (Kd.R_lt (by (with_reducible repeat (first | apply Kd.R_alloc | apply Kd.R_drewN | apply Kd.R_drew)); exact HO139.out))) (below_size (by repeat (first | (with_reducible first | exact HB.out | apply below_alloc | apply pw_below_drewN | apply below_drew1) | exact HB.out)))); have n2_ := Aside0.mk (below_step (by repeat (first | (with_reducible first | exact HB.out | apply below_alloc | apply pw_below_drewN | apply below_drew1) | exact HB.out)) hb); clear HO139; clear HB; have HO139 := n0_; have HO142 := n1_; have HB := n2_; clear n0_ n1_ n2_; (try clear hb); (try clear hb2); (try clear hk); (try clear hi); (try clear ho0)))
      go_ret
      exact ⟨by first | rfl | (simp [errW_none, errW_some] <;> rfl) | (simp [*, errW_none, errW_some] <;> rfl), by repeat (first | (with_reducible first | exact HB.out | apply below_alloc | apply pw_below_drewN | apply below_drew1) | exact HB.out)⟩
  · replace c5 := Bool.eq_false_iff.mpr c5
    subst c5
    have H1 : (some t134) = some r := by rw [if_neg (show ¬ (false = true) by decide)] at H; exact H
    clear H
    have H := H1
    clear H1
    obtain rfl := Option.some.inj H
    go_enter Try.func9, Try.ntmps9
    go_wp2_with (first | ((with_reducible refine gate_callee (f := 23) rfl ?_); refine goesL_ (some 10) rfl rfl Try.func23 (by kernel_rfl) rfl #[] rfl (by (try simp only [List.map_toArray, List.map_cons, List.map_nil]); first | done | rfl | (simp only [List.length_drop, List.length_take]; rfl)) ?_; (with_reducible refine (sennitlaw20_awake.calls  t134 _ A3.out).mono ?_); rintro e w22 ⟨rfl, hb⟩; refine ⟨_, rfl, ?_⟩; have n0_ := Aside0.mk (below_step (by repeat (first | (with_reducible first | exact HB.out | apply below_alloc | apply pw_below_drewN | apply below_drew1) | exact HB.out)) hb); clear HB; have HB := n0_; clear n0_; (try clear hb); (try clear hb2); (try clear hk); (try clear hi)) | ((with_reducible refine gate_callee (f := 24) rfl ?_); refine goesL_ (some 13) rfl rfl Try.func24 (by kernel_rfl) rfl #[.slice A0 l0.length c0, .slice A1 l1.length c1] rfl (by (try simp only [List.map_toArray, List.map_cons, List.map_nil]); first | done | rfl | (simp only [List.length_drop, List.length_take]; rfl)) ?_; (with_reducible refine (sennitref20_Few.calls k _ _ l0 _ _ l1 false _ ?side1 ?side2 ?side3 ?side4 A4.out).mono ?_); (case side1 => repeat (first | exact (Kd.C_below HR0.out HB.out) | (with_reducible refine Kd.C_alloc ?_ _) | (with_reducible refine Kd.C_drewN ?_ _) | (with_reducible refine Kd.C_drew ?_))); (case side2 => exact HC0.out); (case side3 => repeat (first | exact (Kd.C_below HR1.out HB.out) | (with_reducible refine Kd.C_alloc ?_ _) | (with_reducible refine Kd.C_drewN ?_ _) | (with_reducible refine Kd.C_drew ?_))); (case side4 => exact HC1.out); rintro e w' ⟨rfl, ⟨nd, rfl⟩⟩; refine ⟨_, rfl, ?_⟩))
    go_ret
    exact ⟨by first | rfl | (simp [errW_none, errW_some] <;> rfl) | (simp [*, errW_none, errW_some] <;> rfl), by repeat (first | (with_reducible first | exact HB.out | apply below_alloc | apply pw_below_drewN | apply below_drew1) | exact HB.out)⟩

end Go.Proofs.Ytnlekganlliikaa.X
-- part XTabMath
namespace Go.Proofs.Ytnlekganlliikaa.X
open Go.RowKit Go.Proofs.YtnlekganlliikaaW.PrintWords Go.Proofs.YtnlekganlliikaaW.PrintLast Go.Proofs.YtnlekganlliikaaW.PrintMore
set_option linter.unusedVariables false
set_option linter.unusedSimpArgs false
/-- Where the next pairing is. -/
def nextM : List Int → Nat → Nat
  | [], n => n
  | m :: t, n => if 0 ≤ m then m.toNat else nextM t n
/-- Where the lines ahead of a line begin, if any may be there. -/
def fromM (ms : List Int) : Nat → Option Nat
  | 0 => some 0
  | q + 1 => if 0 ≤ ms.getD q (-1) then some ((ms.getD q (-1)).toNat + 1) else none
/-- The parent's lines ahead of a line of the result. -/
def segL (p : List ByteArray) (ms : List Int) (q : Nat) : List ByteArray :=
  match fromM ms q with
  | none => []
  | some a => (p.take (nextM (ms.drop q) p.length)).drop a
def updSeg (N col : Nat) (p : List ByteArray) (ms : List Int) (lost : Nat → Option (List (List ByteArray))) (q : Nat) : Option (List (List ByteArray)) :=
  if segL p ms q = [] then lost q else some (((lost q).getD (List.replicate N [])).set col (segL p ms q))
theorem Fits.next {list : List ByteArray} : ∀ {ms : List Int} {ss : List ByteArray} {lo : Nat}, Fits list ms ss lo → lo ≤ nextM ms list.length ∧ nextM ms list.length ≤ list.length
  | [], [], lo, h => ⟨h, Nat.le_refl _⟩
  | [], _ :: _, lo, h => h.elim
  | m :: ms, s :: ss, lo, h => by
    rcases h with ⟨rfl, h⟩ | ⟨k, rfl, h1, h2, h3⟩
    · rw [nextM, if_neg (by decide)]; exact h.next
    · have := (List.getElem?_eq_some_iff.1 h2).1
      rw [nextM, if_pos (by omega), Int.toNat_natCast]; omega
  | _ :: _, [], lo, h => h.elim
theorem Fits.at_ {list : List ByteArray} : ∀ {ms : List Int} {ss : List ByteArray} {lo : Nat}, Fits list ms ss lo → ∀ q, q < ms.length → (ms.getD q (-1) = -1) ∨ ∃ k : Nat, ms.getD q (-1) = (k : Int) ∧ list[k]? = ss[q]? ∧ k < list.length ∧ k + 1 ≤ nextM (ms.drop (q + 1)) list.length
  | [], ss, lo, h, q, hq => absurd hq (by simp)
  | m :: ms, s :: ss, lo, h, 0, hq => by
    rcases h with ⟨rfl, h⟩ | ⟨k, rfl, h1, h2, h3⟩
    · exact .inl rfl
    · exact .inr ⟨k, rfl, by rw [h2]; rfl, (List.getElem?_eq_some_iff.1 h2).1, h3.next.1⟩
  | m :: ms, s :: ss, lo, h, q + 1, hq => by
    have hq' : q < ms.length := by simpa using hq
    rcases h with ⟨rfl, h⟩ | ⟨k, rfl, h1, h2, h3⟩
    · exact h.at_ q hq'
    · exact h3.at_ q hq'
  | _ :: _, [], lo, h, q, hq => h.elim
theorem Fits.drop_next {list : List ByteArray} : ∀ {ms : List Int} {ss : List ByteArray} {lo : Nat}, Fits list ms ss lo → ∀ q, nextM (ms.drop q) list.length ≤ list.length
  | ms, ss, lo, h, 0 => h.next.2
  | [], ss, lo, h, q + 1 => Nat.le_refl _
  | m :: ms, s :: ss, lo, h, q + 1 => by
    rcases h with ⟨rfl, h⟩ | ⟨k, rfl, h1, h2, h3⟩
    · exact h.drop_next q
    · exact h3.drop_next q
  | _ :: _, [], lo, h, q + 1 => h.elim
theorem Fits.from_le {list ss : List ByteArray} {ms : List Int} (h : Fits list ms ss 0) {q a : Nat} (e : fromM ms q = some a) : a ≤ nextM (ms.drop q) list.length := by
  cases q with
  | zero => obtain rfl := (Option.some.inj e).symm; exact Nat.zero_le _
  | succ q =>
    rw [fromM] at e
    split at e
    · rename_i h0
      have hq : q < ms.length := by
        apply Classical.byContradiction
        intro hn
        rw [List.getD_eq_getElem?_getD, List.getElem?_eq_none (by omega)] at h0
        simp at h0
      rcases h.at_ q hq with h1 | ⟨k, h1, _, _, h2⟩
      · rw [h1] at h0; omega
      · rw [h1] at e; have := Option.some.inj e; simp at this; omega
    · cases e
theorem nextM_skip {ms : List Int} {L : Nat} (last : Nat) : ∀ (n : Nat), last + n ≤ ms.length → (∀ j, last ≤ j → j < last + n → ms.getD j (-1) < 0) → nextM (ms.drop last) L = nextM (ms.drop (last + n)) L
  | 0, _, _ => rfl
  | n + 1, hl, hn => by
    rw [nextM_skip last n (by omega) (fun j h1 h2 => hn j h1 (by omega)), dropCons (i := last + n) (by omega), nextM]
    have := hn (last + n) (by omega) (by omega)
    rw [show ms.getD (last + n) (-1) = ms[last + n] by simp [List.getD_eq_getElem?_getD, List.getElem?_eq_getElem (show last + n < ms.length by omega)]] at this
    rw [if_neg (by omega)]; rfl
theorem fromM_none {ms : List Int} {last i q : Nat} (h : ∀ j, last ≤ j → j < i → ms.getD j (-1) < 0) (h1 : last < q) (h2 : q ≤ i ∨ ms.length ≤ i) : fromM ms q = none := by
  obtain ⟨q, rfl⟩ : ∃ q', q = q' + 1 := ⟨q - 1, by omega⟩
  rw [fromM]
  have : ms.getD q (-1) < 0 := by
    by_cases hq : q < i
    · exact h q (by omega) hq
    · rw [List.getD_eq_getElem?_getD, List.getElem?_eq_none (by omega)]; decide
  rw [if_neg (by omega)]
theorem segL_none {p : List ByteArray} {ms : List Int} {q : Nat} (h : fromM ms q = none) : segL p ms q = [] := by rw [segL, h]
theorem loseAt_eq {N col : Nat} {p : List ByteArray} {ms : List Int} {lost : Nat → Option (List (List ByteArray))} {at_ last : Nat} (hF : nextM (ms.drop last) p.length ≤ p.length) (ha : fromM ms last = some at_) (q : Nat) :
    loseAt N col p lost (nextM (ms.drop last) p.length) at_ last q = if q = last then updSeg N col p ms lost q else lost q := by
  have hs : segL p ms last = (p.take (nextM (ms.drop last) p.length)).drop at_ := by rw [segL, ha]
  by_cases hq : q = last
  · subst hq
    rw [if_pos rfl, updSeg, hs, loseAt]
    by_cases h : at_ < nextM (ms.drop q) p.length
    · have hne : ¬ (p.take (nextM (ms.drop q) p.length)).drop at_ = [] := by rw [List.drop_eq_nil_iff, List.length_take]; omega
      rw [if_pos h, if_neg hne]
      exact if_pos rfl
    · rw [if_neg h, if_pos (List.drop_eq_nil_iff.2 (by simp; omega))]
  · rw [if_neg hq, loseAt]
    split
    · simp [hq]
    · rfl
theorem pairGo_eq {N col : Nat} {p ss : List ByteArray} {ms : List Int} (hF : Fits p ms ss 0) : ∀ (t : List Int) (i at_ last : Nat) (lost : Nat → Option (List (List ByteArray))), ms.drop i = t → last ≤ i → i ≤ ms.length → fromM ms last = some at_ → (∀ j, last ≤ j → j < i → ms.getD j (-1) < 0) →
    ∀ q, pairGo N col p t i at_ last lost q = if q < last then lost q else updSeg N col p ms lost q
  | [], i, at_, last, lost, hd, hli, hi, ha, hn, q => by
    have hlen : ms.length ≤ i := List.drop_eq_nil_iff.1 hd
    have hnx : nextM (ms.drop last) p.length = p.length := by
      rw [nextM_skip last (i - last) (by omega) (fun j a b => hn j a (by omega)), show last + (i - last) = i by omega, hd]; rfl
    have := loseAt_eq (N := N) (col := col) (lost := lost) (by rw [hnx]; exact Nat.le_refl _) ha q
    rw [hnx] at this
    rw [pairGo, this]
    by_cases h1 : q < last
    · rw [if_neg (by omega), if_pos h1]
    · rw [if_neg h1]
      by_cases h2 : q = last
      · rw [if_pos h2]
      · rw [if_neg h2, updSeg, if_pos (segL_none (fromM_none hn (by omega) (.inr hlen)))]
  | m :: t, i, at_, last, lost, hd, hli, hi, ha, hn, q => by
    have hil : i < ms.length := by
      apply Classical.byContradiction
      intro h
      rw [List.drop_of_length_le (by omega)] at hd
      cases hd
    rw [dropCons hil] at hd
    have hm : ms[i] = m := (List.cons.inj hd).1
    have ht : ms.drop (i + 1) = t := (List.cons.inj hd).2
    have hg : ms.getD i (-1) = m := by rw [← hm]; simp [List.getD_eq_getElem?_getD, List.getElem?_eq_getElem hil]
    rw [pairGo]
    by_cases h0 : 0 ≤ m
    · rw [if_pos h0, pairGo_eq hF t (i + 1) (m.toNat + 1) (i + 1) _ ht (Nat.le_refl _) hil (by rw [fromM, hg, if_pos h0]) (fun j a b => by omega) q]
      have hnx : nextM (ms.drop last) p.length = m.toNat := by
        rw [nextM_skip last (i - last) (by omega) (fun j a b => hn j a (by omega)), show last + (i - last) = i by omega, dropCons hil, nextM, hm, if_pos h0]
      have := loseAt_eq (N := N) (col := col) (lost := lost) (hF.drop_next last) ha
      rw [hnx] at this
      by_cases h1 : q < last
      · rw [if_pos (by omega), if_pos h1, this q, if_neg (by omega)]
      · rw [if_neg h1]
        by_cases h2 : q = last
        · rw [if_pos (by omega), this q, if_pos h2]
        · by_cases h3 : q < i + 1
          · rw [if_pos h3, this q, if_neg h2, updSeg, if_pos (segL_none (fromM_none hn (by omega) (.inl (by omega))))]
          · rw [if_neg h3, updSeg, updSeg, this q, if_neg h2]
    · rw [if_neg h0, pairGo_eq hF t (i + 1) at_ last lost ht (by omega) hil ha (fun j a b => by
        by_cases hj : j = i
        · subst hj; rw [hg]; omega
        · exact hn j a (by omega)) q]
/-- The parents' lines ahead of a line of the result. -/
def segsL (result : List ByteArray) (ps : List (List ByteArray)) (q : Nat) : List (List ByteArray) := ps.map (fun p => segL p (matchS result p) q)
theorem segsL_length (result : List ByteArray) (ps : List (List ByteArray)) (q : Nat) : (segsL result ps q).length = ps.length := List.length_map ..
theorem empties {ls : List (List ByteArray)} (h : ls.all (·.isEmpty) = true) : ls = List.replicate ls.length [] := by
  induction ls with
  | nil => rfl
  | cons l t ih =>
    simp only [List.all_cons, Bool.and_eq_true, List.isEmpty_iff] at h
    rw [List.length_cons, List.replicate_succ, h.1, ← ih h.2]
theorem lostK_eq (result : List ByteArray) (parents : List (List ByteArray)) (q : Nat) : ∀ k, k ≤ parents.length → lostK result parents k q = if (segsL result (parents.take k) q).all (·.isEmpty) = true then none else some (segsL result (parents.take k) q ++ List.replicate (parents.length - k) [])
  | 0, _ => by
    rw [List.take_zero]; rfl
  | k + 1, hk => by
    have hkl : k < parents.length := by omega
    have ih := lostK_eq result parents q k (by omega)
    have hpg : pairGo parents.length k (parents.getD k []) (matchS result (parents.getD k [])) 0 0 0 (lostK result parents k) q = _ := pairGo_eq (matchS_fits result _) _ 0 0 0 _ rfl (Nat.le_refl _) (Nat.zero_le _) rfl (fun j a b => by omega) q
    rw [lostK_succ _ _ hkl, hpg, if_neg (by omega), updSeg]
    have hp : parents.getD k [] = parents[k] := by simp [hkl]
    have hs : segsL result (parents.take (k + 1)) q = segsL result (parents.take k) q ++ [segL (parents.getD k []) (matchS result (parents.getD k [])) q] := by
      rw [← List.take_append_getElem hkl, segsL, List.map_append, hp]; rfl
    rw [hs]
    obtain ⟨S, hS⟩ : ∃ S, segsL result (parents.take k) q = S := ⟨_, rfl⟩
    obtain ⟨s, hs1⟩ : ∃ s, segL (parents.getD k []) (matchS result (parents.getD k [])) q = s := ⟨_, rfl⟩
    have hSl : S.length = k := by rw [← hS, segsL_length, List.length_take]; omega
    rw [hS] at ih
    rw [hS, hs1]
    have hrep : List.replicate (parents.length - k) ([] : List ByteArray) = [] :: List.replicate (parents.length - (k + 1)) [] := by
      rw [show parents.length - k = (parents.length - (k + 1)) + 1 by omega, List.replicate_succ]
    by_cases e : s = []
    · subst e
      rw [if_pos rfl, ih, List.all_append]
      have : ([[]] : List (List ByteArray)).all (·.isEmpty) = true := rfl
      rw [this, Bool.and_true, hrep]
      simp
    · have hne : (S ++ [s]).all (·.isEmpty) = false := by
        rw [List.all_append]
        have : ([s] : List (List ByteArray)).all (·.isEmpty) = false := by
          cases s with
          | nil => exact absurd rfl e
          | cons a b => rfl
        rw [this, Bool.and_false]
      rw [if_neg e, hne, if_neg (by decide)]
      have hget : (lostK result parents k q).getD (List.replicate parents.length []) = S ++ List.replicate (parents.length - k) [] := by
        rw [ih]
        by_cases ha : S.all (·.isEmpty) = true
        · rw [if_pos ha, Option.getD_none]
          have := empties ha
          rw [hSl] at this
          rw [this, List.replicate_append_replicate]
          congr 1; omega
        · rw [if_neg ha]; rfl
      rw [hget, hrep, List.set_append, if_neg (by omega), hSl, Nat.sub_self, List.set_cons_zero, List.append_assoc]; rfl
theorem lostAll_eq (result : List ByteArray) (parents : List (List ByteArray)) (q : Nat) : lostAll result parents q = if (segsL result parents q).all (·.isEmpty) = true then none else some (segsL result parents q) := by
  have := lostK_eq result parents q parents.length (Nat.le_refl _)
  rw [List.take_length, Nat.sub_self, List.replicate_zero, List.append_nil, lostK, List.take_length] at this
  exact this
theorem rowsOf_empties {ls : List (List ByteArray)} (h : ls.all (·.isEmpty) = true) : rowsOf ls = [] := by
  have h1 := rowsOf_le ls
  have h2 : sumLen ls = 0 := by
    rw [empties h]; simp [sumLen]
  rw [h2] at h1
  exact List.length_eq_zero_iff.1 (by omega)
theorem lostRows_eq (result : List ByteArray) (parents : List (List ByteArray)) (q : Nat) : lostRows (lostAll result parents q) = (rowsOf (segsL result parents q)).map (rowOut parents.length) := by
  rw [lostAll_eq]
  by_cases h : (segsL result parents q).all (·.isEmpty) = true
  · rw [if_pos h, lostRows, rowsOf_empties h]; rfl
  · rw [if_neg h, lostRows, segsL_length]
def marksU (result : List ByteArray) (ps : List (List ByteArray)) (k : Nat) : List UInt8 := ps.map (fun p => if 0 ≤ (matchS result p).getD k 0 then 32 else 43)
theorem markS_bs (m : Int) : markS m = bs [if 0 ≤ m then 32 else 43] := by
  unfold markS
  split <;> rfl
theorem marksK_eq (result : List ByteArray) (parents : List (List ByteArray)) (q : Nat) (hq : q < result.length) : ∀ k, k ≤ parents.length → (marksK result parents k).getD (q + 1) ByteArray.empty = bs (marksU result (parents.take k) q)
  | 0, _ => by
    show ((⟨#[32]⟩ :: List.replicate result.length ByteArray.empty).getD (q + 1) ByteArray.empty) = _
    rw [List.getD_cons_succ]
    simp [List.getD_eq_getElem?_getD, List.getElem?_replicate, hq, marksU]
    rfl
  | k + 1, hk => by
    have hkl : k < parents.length := by omega
    have hp : parents.getD k [] = parents[k] := by simp [hkl]
    have hM := (marksK_ok result parents k (by omega)).1
    have ih := marksK_eq result parents q hq k (by omega)
    rw [marksK_succ _ _ hkl, marksF, List.getD_cons_succ]
    have hml := matchS_length result (parents.getD k [])
    have h1 : q < (marksK result parents k).tail.length := by simp [hM]; exact hq
    have h2 : q < (matchS result (parents.getD k [])).length := by rw [hml]; exact hq
    have h3 : (marksK result parents k).tail[q] = (marksK result parents k).getD (q + 1) ByteArray.empty := by
      rw [List.getElem_tail]; simp [List.getD_eq_getElem?_getD, List.getElem?_eq_getElem (show q + 1 < (marksK result parents k).length by omega)]
    have h4 : (matchS result (parents.getD k [])).getD q 0 = (matchS result (parents.getD k []))[q] := by rw [List.getD_eq_getElem?_getD, List.getElem?_eq_getElem h2]; rfl
    rw [List.getD_eq_getElem?_getD, List.getElem?_zipWith, List.getElem?_eq_getElem h1, List.getElem?_eq_getElem h2]
    show (marksK result parents k).tail[q] ++ markS (matchS result (parents.getD k []))[q] = _
    rw [h3, ih, markS_bs, bs_append, ← List.take_append_getElem hkl, marksU, marksU, List.map_append, ← hp, ← h4]; rfl
theorem marksAll_eq (result : List ByteArray) (parents : List (List ByteArray)) (q : Nat) (hq : q < result.length) : (marksAll result parents).getD (q + 1) ByteArray.empty = bs (marksU result parents q) := by
  have := marksK_eq result parents q hq parents.length (Nat.le_refl _)
  rwa [marksK, List.take_length] at this
/-- The rows ahead of a line of the result. -/
def segRows (result : List ByteArray) (parents : List (List ByteArray)) (q : Nat) : List ApiRow := (rowsOf (segsL result parents q)).map (rowOut parents.length)
theorem tableRows_succ (result : List ByteArray) (parents : List (List ByteArray)) (k : Nat) (hk : k < result.length) : tableRows result parents (k + 1) = tableRows result parents k ++ segRows result parents k ++ [⟨bs (marksU result parents k), result[k]⟩] := by
  rw [tableRows, lostRows_eq, marksAll_eq _ _ _ hk, show result.getD k ByteArray.empty = result[k] by simp [hk]]; rfl
theorem tableAll_eq (result : List ByteArray) (parents : List (List ByteArray)) : tableAll result parents = tableRows result parents result.length ++ segRows result parents result.length := by
  rw [tableAll, lostRows_eq]; rfl
/-- What stands ahead of a line is part of the parent. -/
theorem segL_length_le (p : List ByteArray) (ms : List Int) (q : Nat) : (segL p ms q).length ≤ p.length := by
  unfold segL
  split
  · simp
  · simp; omega
theorem segL_mem {p : List ByteArray} {ms : List Int} {q : Nat} {s : ByteArray} (h : s ∈ segL p ms q) : s ∈ p := by
  unfold segL at h
  split at h
  · cases h
  · exact List.mem_of_mem_take (List.mem_of_mem_drop h)
end Go.Proofs.Ytnlekganlliikaa.X
-- part XTabRows
namespace Go.Proofs.Ytnlekganlliikaa.X
open Go.RowKit Go.Proofs.YtnlekganlliikaaW.PrintWords Go.Proofs.YtnlekganlliikaaW.PrintLast Go.Proofs.YtnlekganlliikaaW.PrintMore
set_option linter.unusedVariables false
set_option linter.unusedSimpArgs false
theorem awake20 : sennitlaw20_awake.f = some true := by decide +kernel
section
variable {R : List ApiRow}
end
end Go.Proofs.Ytnlekganlliikaa.X
-- part XTabTells
namespace Go.Proofs.Ytnlekganlliikaa.X
open Go.RowKit Go.Proofs.YtnlekganlliikaaW.PrintWords Go.Proofs.YtnlekganlliikaaW.PrintLast Go.Proofs.YtnlekganlliikaaW.PrintMore
set_option linter.unusedVariables false
set_option linter.unusedSimpArgs false
theorem byte10 (c : UInt8) : ((c.toNat : Int) = 10) ↔ c = 10 := by
  constructor
  · intro h
    have : c.toNat = 10 := by omega
    exact UInt8.toNat_inj.1 this
  · rintro rfl; rfl
theorem index10 (u : List UInt8) : (¬ (10 : UInt8) ∈ u ∧ Lib.indexByte u 10 = -1) ∨ (∃ a b, u = a ++ 10 :: b ∧ ¬ (10 : UInt8) ∈ a ∧ Lib.indexByte u 10 = (a.length : Int)) := by
  induction u with
  | nil => left; simp [Lib.indexByte]
  | cons x xs ih =>
    simp only [Lib.indexByte]
    by_cases e : x = 10
    · right; exact ⟨[], xs, by rw [e]; rfl, by simp, by simp [e]⟩
    · have e' : (x == 10) = false := by simp [e]
      have e2 : ¬ (10 : UInt8) = x := fun h => e h.symm
      rw [e']
      rcases ih with ⟨h1, h2⟩ | ⟨a, b, h0, h1, h2⟩
      · left; simp [h1, h2, e2]
      · right
        refine ⟨x :: a, b, by rw [h0]; rfl, by simp [e2, h1], ?_⟩
        rw [if_neg (by decide), if_neg (by simp; omega), h2]
        simp
theorem closed_eq (s : ByteArray) : lineClosed s = (decide (s.data.toList.count 10 = 1) && decide (s.data.toList.getLast? = some 10)) := by
  have hs := sizeLen s
  rw [lineClosed, ← Bool.decide_and, decide_eq_decide]
  rcases index10 s.data.toList with ⟨h1, h2⟩ | ⟨a, b, h0, h1, h2⟩
  · rw [h2, List.count_eq_zero.2 h1]; omega
  · rw [h2, hs, h0, List.count_append, List.count_eq_zero.2 h1, List.count_cons_self, List.length_append, List.length_cons]
    cases b with
    | nil => simp
    | cons y t =>
      rw [List.getLast?_append, List.getLast?_cons_cons]
      constructor
      · intro ⟨_, h⟩; rw [List.length_cons] at h; omega
      · rintro ⟨h3, h4⟩
        have h5 : (y :: t).getLast? = some 10 := by
          cases hg : (y :: t).getLast? with
          | none => simp at hg
          | some z => rw [hg] at h4; exact h4
        have := List.count_pos_iff.2 (List.mem_of_getLast? h5)
        omega
theorem open_eq (s : ByteArray) : lineOpen s = (decide (0 < s.size) && decide (s.data.toList.count 10 = 0)) := by
  rw [lineOpen, ← Bool.decide_and, decide_eq_decide, List.count_eq_zero]
  rcases index10 s.data.toList with ⟨h1, h2⟩ | ⟨a, b, h0, h1, h2⟩
  · rw [h2]; simp [h1]
  · rw [h2]
    have : (10 : UInt8) ∈ s.data.toList := by rw [h0]; simp
    constructor
    · rintro ⟨h, _⟩; omega
    · rintro ⟨_, h⟩; exact absurd this h
theorem ref_feeds_l0 (s : ByteArray) (hs : s.size ≤ 1000000000) : ∀ (r i k : Nat) (n : Nat), i + r = s.size → n ≤ i → r + 1 ≤ k → sennitref01_feeds.l0 k s (n : Int) (i : Int) = some (((n + (s.data.toList.drop i).count 10 : Nat) : Int))
  | 0, i, k + 1, n, hi, hn, _ => by
    rw [sennitref01_feeds.l0, if_neg (by omega), List.drop_of_length_le (by rw [← sizeLen]; omega)]
    simp
  | r + 1, i, k + 1, n, hi, hn, hk => by
    have hd := dropCons (l := s.data.toList) (i := i) (by rw [← sizeLen]; omega)
    rw [sennitref01_feeds.l0, if_pos (by omega), if_pos (by omega), btN (by omega), hd]
    obtain ⟨c, hc⟩ : ∃ c, s.data.toList[i]'(by rw [← sizeLen]; omega) = c := ⟨_, rfl⟩
    rw [hc, gw1 (i := i) (by omega), gw1 (i := n) (by omega)]
    by_cases e : c = 10
    · rw [if_pos ((byte10 c).2 e), e, List.count_cons_self, ref_feeds_l0 s hs r (i + 1) k (n + 1) (by omega) (by omega) (by omega)]
      congr 1; omega
    · rw [if_neg (fun h => e ((byte10 c).1 h)), List.count_cons_of_ne e, ref_feeds_l0 s hs r (i + 1) k n (by omega) (by omega) (by omega)]
theorem ref_feeds (s : ByteArray) (hs : s.size ≤ 1000000000) (k : Nat) (hk : s.size + 1 ≤ k) : sennitref01_feeds.f k s = some ((s.data.toList.count 10 : Nat) : Int) := by
  have := ref_feeds_l0 s hs s.size 0 k 0 (by omega) (by omega) hk
  simpa [sennitref01_feeds.f] using this
theorem last_idx (s : ByteArray) (h : 0 < s.size) : s.data.toList.getLast? = some (s.data.toList[s.size - 1]'(by rw [← sizeLen]; omega)) := by
  rw [List.getLast?_eq_getElem?, List.getElem?_eq_getElem (by simp at h ⊢; omega)]
  simp
theorem ref_line (s : ByteArray) (hs : s.size ≤ 1000000000) (k : Nat) (hk : s.size + 1 ≤ k) : sennitref01_Line.f k s = some (lineClosed s) := by
  rw [sennitref01_Line.f, ref_feeds s hs k hk, Option.bind_some, closed_eq]
  by_cases h1 : s.data.toList.count 10 = 1
  · have hp : 0 < s.size := by
      rw [sizeLen]
      exact List.length_pos_iff.2 (fun e => by rw [e] at h1; simp at h1)
    have ew : wrap64 ((s.size : Int) - 1) = ((s.size - 1 : Nat) : Int) := by rw [gw (by omega) (by omega)]; omega
    rw [if_pos (by omega), ew, if_pos (by omega), if_pos (by omega), btN (by omega), last_idx s hp]
    congr 1
    rw [decide_eq_true h1, Bool.true_and, Bool.eq_iff_iff]
    simp only [beq_iff_eq, decide_eq_true_eq, Option.some.injEq, byte10]
  · rw [if_neg (by omega), decide_eq_false h1]
    rfl
theorem ref_may_l0 (l : List ByteArray) (hl : l.length ≤ 1000000) (M : Nat) (hM : M ≤ 1000000) (hs : ∀ s ∈ l, s.size ≤ M) : ∀ (r i k : Nat), i + r = l.length → r + M + 2 ≤ k → sennitref01_May.l0 k l (i : Int) = some (mayL (l.drop i))
  | 0, i, k + 1, hi, _ => by
    rw [sennitref01_May.l0, if_neg (by omega), List.drop_of_length_le (by omega)]
    rfl
  | r + 1, i, k + 1, hi, hk => by
    have hil : i < l.length := by omega
    have hd := dropCons hil
    have hz : l[i].size ≤ M := hs _ (List.getElem_mem _)
    have ih := ref_may_l0 l hl M hM hs r (i + 1) k (by omega) (by omega)
    have hln := ref_line l[i] (by omega) k (by omega)
    have hfd := ref_feeds l[i] (by omega) k (by omega)
    rw [sennitref01_May.l0, if_pos (by omega), rdOfN hil, gw1 (by omega), gw (x := (l.length : Int) - 1) (by omega) (by omega), hln, hfd, ih, hd]
    have hm : mayL (l[i] :: l.drop (i + 1)) = ((lineClosed l[i] || ((decide (0 < l[i].size) && decide (l[i].data.toList.count 10 = 0)) && (l.drop (i + 1)).isEmpty)) && mayL (l.drop (i + 1))) := by
      rw [mayL, open_eq]
    have hnil : ((l.drop (i + 1)).isEmpty = true) ↔ ((i : Int) = (l.length : Int) - 1) := by
      rw [List.isEmpty_iff, List.drop_eq_nil_iff]; omega
    rw [hm]
    obtain ⟨m, hm⟩ : ∃ m, mayL (l.drop (i + 1)) = m := ⟨_, rfl⟩
    obtain ⟨c, hc⟩ : ∃ c, lineClosed l[i] = c := ⟨_, rfl⟩
    rw [hm, hc]
    simp only [Option.bind_some]
    clear hm hln hfd ih hd hc
    by_cases e1 : (i : Int) = (l.length : Int) - 1
    · rw [if_pos e1, if_pos (by omega), hnil.2 e1, Bool.and_true]
      by_cases e2 : 0 < l[i].size
      · rw [if_pos (by omega), decide_eq_true e2, Bool.true_and]
        by_cases e3 : l[i].data.toList.count 10 = 0
        · rw [if_pos (by omega), decide_eq_true e3]
          cases c <;> cases m <;> rfl
        · rw [if_neg (by omega), decide_eq_false e3]
          cases c <;> cases m <;> rfl
      · rw [if_neg (by omega), decide_eq_false e2]
        cases c <;> cases m <;> rfl
    · have : (l.drop (i + 1)).isEmpty = false := by
        cases hh : (l.drop (i + 1)).isEmpty
        · rfl
        · exact absurd (hnil.1 hh) e1
      rw [if_neg e1, if_pos (by omega), this, Bool.and_false]
      cases c <;> cases m <;> rfl
theorem ref_May01 (l : List ByteArray) (hl : l.length ≤ 1000000) (hs : ∀ s ∈ l, s.size ≤ 1000000) : Gives (fun k => sennitref01_May.f k l) (mayL l) :=
  ⟨l.length + 1000000 + 2, fun k hk => by
    have := ref_may_l0 l hl 1000000 (Nat.le_refl _) hs l.length 0 k (by omega) hk
    simpa [sennitref01_May.f] using this⟩

def FewT (result : List ByteArray) (ls : List (List ByteArray)) : Prop := (result.length ≤ 16 ∧ ∀ s ∈ result, s.size ≤ 100) ∧ ls.length ≤ 6 ∧ ∀ l ∈ ls, l.length ≤ 16 ∧ ∀ s ∈ l, s.size ≤ 100
theorem ref_Few20 (result : List ByteArray) (ls : List (List ByteArray)) : ∃ b, Gives (fun k => sennitref20_Few.f k result ls) b ∧ (b = true → FewT result ls) := by
  have he : Gives (fun k => sennitref01_Few.f k result 16) (fewB result 16) := ref_few01 result 16 (by omega)
  have hlast : ∀ i : Nat, (i = ls.length ∨ i = 7) → (∀ l ∈ ls.take i, fewB l 16 = true) → ∃ b, Gives (fun k => sennitref20_Few.j1 k result ls (i : Int) false) b ∧ (b = true → fewB result 16 = true ∧ ls.length ≤ 6 ∧ ∀ l ∈ ls, fewB l 16 = true) := by
    intro i hi hP
    refine ⟨fewB result 16 && decide ((ls.length : Int) ≤ 6), Gives.last he fun k hk => ?_, fun h => ?_⟩
    · show sennitref20_Few.j1 (k + 1) result ls (i : Int) false = _
      rw [sennitref20_Few.j1, if_neg (by decide), hk, Option.bind_some]
      cases fewB result 16 <;> rfl
    · rw [Bool.and_eq_true] at h
      have h6 := of_decide_eq_true h.2
      rw [List.take_of_length_le (by omega)] at hP
      exact ⟨h.1, by omega, hP⟩
  have hmain : ∀ (r i : Nat), i + r = min ls.length 7 → (∀ l ∈ ls.take i, fewB l 16 = true) → ∃ b, Gives (fun k => sennitref20_Few.l0 k result ls (i : Int)) b ∧ (b = true → fewB result 16 = true ∧ ls.length ≤ 6 ∧ ∀ l ∈ ls, fewB l 16 = true) := by
    intro r
    induction r with
    | zero =>
      intro i hi hP
      obtain ⟨b, h1, h2⟩ := hlast i (by omega) hP
      refine ⟨b, h1.step fun k => ?_, h2⟩
      show sennitref20_Few.l0 (k + 1) result ls (i : Int) = _
      rw [sennitref20_Few.l0]
      by_cases h : i < ls.length
      · rw [if_pos (by omega), decide_eq_false (by omega)]
      · rw [if_neg (by omega)]
    | succ r ih =>
      intro i hi hP
      have hil : i < ls.length := by omega
      have e : rd_L1 ls (i : Int) = ls[i] := getN hil
      have hf := ref_few01 ls[i] 16 (by omega)
      have h0 : ∀ b, Gives (fun k => sennitref20_Few.j1 k result ls (i : Int) true) b → Gives (fun k => sennitref20_Few.l0 k result ls (i : Int)) b := fun b hb => hb.step fun k => by
        show sennitref20_Few.l0 (k + 1) result ls (i : Int) = _
        rw [sennitref20_Few.l0, if_pos (by omega), decide_eq_true (by omega)]
      cases hb : fewB ls[i] 16 with
      | true =>
        obtain ⟨b, h1, h2⟩ := ih (i + 1) (by omega) (fun l hl => by
          rw [← List.take_append_getElem hil] at hl
          rcases List.mem_append.1 hl with hl | hl
          · exact hP l hl
          · rw [List.mem_singleton.1 hl]; exact hb)
        refine ⟨b, h0 b (Gives.call hf h1 fun k hk => ?_), h2⟩
        show sennitref20_Few.j1 (k + 1) result ls (i : Int) true = _
        have hk' : sennitref01_Few.f k ls[i] 16 = some true := by rw [← hb]; exact hk
        rw [sennitref20_Few.j1, if_pos rfl, if_pos (by omega), if_pos (by omega), e, hk', Option.bind_some, if_pos rfl, gw1 (by omega)]
      | false =>
        refine ⟨false, h0 false (Gives.last hf fun k hk => ?_), fun h => by cases h⟩
        show sennitref20_Few.j1 (k + 1) result ls (i : Int) true = _
        have hk' : sennitref01_Few.f k ls[i] 16 = some false := by rw [← hb]; exact hk
        rw [sennitref20_Few.j1, if_pos rfl, if_pos (by omega), if_pos (by omega), e, hk', Option.bind_some, if_neg (by decide)]
  obtain ⟨b, h1, h2⟩ := hmain (min ls.length 7) 0 (by omega) (by simp)
  refine ⟨b, h1.same fun k => rfl, fun h => ?_⟩
  obtain ⟨h3, h4, h5⟩ := h2 h
  exact ⟨of_decide_eq_true h3, h4, fun l hl => of_decide_eq_true (h5 l hl)⟩
section
variable {result : List ByteArray} {ls : List (List ByteArray)}
theorem FewT.sum (h : FewT result ls) : sumLen ls ≤ 96 := by
  have := sumLen_take 16 ls ls.length (fun l hl => (h.2.2 l hl).1)
  rw [List.take_length] at this
  have := h.2.1
  omega
theorem FewT.ok (h : FewT result ls) : tableOk result ls = true := by
  obtain ⟨⟨h1, h2⟩, h3, h4⟩ := h
  have h5 : sumLen ls ≤ 96 := FewT.sum ⟨⟨h1, h2⟩, h3, h4⟩
  rw [tableOk, Bool.and_eq_true, Bool.or_eq_true]
  refine ⟨decide_eq_true ⟨by omega, by omega, ?_⟩, .inr (decide_eq_true (by omega))⟩
  intro l hl
  rcases List.mem_cons.1 hl with rfl | hl
  · exact ⟨by omega, fun s hs => by have := h2 s hs; omega⟩
  · have := (h4 l hl).1
    exact ⟨by omega, fun s hs => by have := (h4 l hl).2 s hs; omega⟩
theorem FewT.table (h : FewT result ls) : table_Table.f result ls = some (tableF result ls) := by rw [table_Table.f, if_pos h.ok]

theorem ref_wrong_l0 (h : ∀ l ∈ ls, l.length ≤ 2000 ∧ ∀ s ∈ l, s.size ≤ 1000000) (hn : ls.length ≤ 1000) : ∀ (r i : Nat) (m : Bool), i + r = ls.length → Gives (fun k => sennitref20_wrong.l0 k ls m false (i : Int)) (if (m && (ls.drop i).all mayL) = true then 0 else 2) := by
  intro r
  induction r with
  | zero =>
    intro i m hi
    refine Gives.of fun k => ?_
    show sennitref20_wrong.l0 (k + 1) ls m false (i : Int) = _
    rw [sennitref20_wrong.l0, if_neg (by omega), List.drop_of_length_le (by omega)]
    cases m <;> rfl
  | succ r ih =>
    intro i m hi
    have hil : i < ls.length := by omega
    have e : rd_L1 ls (i : Int) = ls[i] := getN hil
    have hz := h ls[i] (List.getElem_mem _)
    rw [dropCons hil, List.all_cons]
    cases m with
    | true =>
      have hm := ref_May01 ls[i] (by omega) hz.2
      have := ih (i + 1) (mayL ls[i]) (by omega)
      rw [Bool.true_and]
      refine Gives.call hm this fun k hk => ?_
      show sennitref20_wrong.l0 (k + 1) ls true false (i : Int) = _
      rw [sennitref20_wrong.l0, if_pos (by omega), if_pos rfl, if_pos (by omega), e, hk, Option.bind_some, if_neg (by decide), gw1 (by omega), decide_eq_false (by omega)]
    | false =>
      have := ih (i + 1) false (by omega)
      refine (this.eq rfl).step fun k => ?_
      show sennitref20_wrong.l0 (k + 1) ls false false (i : Int) = _
      rw [sennitref20_wrong.l0, if_pos (by omega), if_neg (by decide), if_neg (by decide), if_pos (by omega), e, gw1 (by omega), decide_eq_false (by omega)]
theorem ref_wrong20 (h : FewT result ls) : Gives (fun k => sennitref20_wrong.f k result ls) (wrongF mayL (result :: ls)) := by
  obtain ⟨⟨h1, h2⟩, h3, h4⟩ := h
  by_cases h0 : ls.length = 0
  · have e : wrongF mayL (result :: ls) = 1 := by rw [wrongF, if_pos (by simp; omega)]
    rw [e]
    refine (Gives.of (f := fun k => sennitref20_wrong.j0 k result ls true) fun k => ?_).same fun k => ?_
    · show sennitref20_wrong.j0 (k + 1) result ls true = _
      rw [sennitref20_wrong.j0, if_pos rfl]
    · show sennitref20_wrong.f k result ls = _
      rw [sennitref20_wrong.f, if_pos (by omega)]
  · have hl : (result :: ls).any longL = false := by
      rw [List.any_eq_false]
      intro l hl
      rcases List.mem_cons.1 hl with rfl | hl
      · simp [longL]; omega
      · have := (h4 l hl).1; simp [longL]; omega
    have e : wrongF mayL (result :: ls) = (if (mayL result && (ls.drop 0).all mayL) = true then 0 else 2) := by
      rw [wrongF, if_neg (by simp; omega), hl, if_neg (show ¬ false = true by decide), List.drop_zero]
      by_cases hm : (mayL result && ls.all mayL) = true
      · rw [if_pos hm, if_neg]
        rw [← List.all_cons (f := mayL)] at hm
        simp only [List.any_eq_true, not_exists, not_and]
        intro x hx hc
        rw [List.all_eq_true.1 hm x hx] at hc; cases hc
      · rw [if_neg hm, if_pos]
        rw [← List.all_cons (f := mayL), List.all_eq_true] at hm
        rw [List.any_eq_true]
        apply Classical.byContradiction
        intro hc
        apply hm
        intro x hx
        cases hmx : mayL x with
        | true => rfl
        | false => exact absurd ⟨x, hx, by rw [hmx]; rfl⟩ hc
    rw [e]
    have hm := ref_May01 result (by omega) (fun s hs => by have := h2 s hs; omega)
    have hw := ref_wrong_l0 (ls := ls) (fun l hl => ⟨by have := (h4 l hl).1; omega, fun s hs => by have := (h4 l hl).2 s hs; omega⟩) (by omega) ls.length 0 (mayL result) (by omega)
    refine (Gives.call hm hw (f := fun k => sennitref20_wrong.j0 k result ls false) fun k hk => ?_).same fun k => ?_
    · show sennitref20_wrong.j0 (k + 1) result ls false = _
      rw [sennitref20_wrong.j0, if_neg (by decide), hk, Option.bind_some, decide_eq_false (by omega)]; rfl
    · show sennitref20_wrong.f k result ls = _
      rw [sennitref20_wrong.f, if_neg (by omega), decide_eq_false (by omega)]
end
theorem ref_lost20_l0 {p : List ByteArray} {ms : List Int} {a : Nat} {q : Nat} (hp : p.length ≤ 100000) (hml : ms.length ≤ 100000) (hx : ∀ q, nextM (ms.drop q) p.length ≤ p.length) (ha : a ≤ nextM (ms.drop q) p.length) : ∀ (r i : Nat), q + r = i → i ≤ ms.length →
    Gives (fun k => sennitref20_lost.l0 k p ms (q : Int) (a : Int) (nextM (ms.drop i) p.length : Int) ((i : Int) - 1)) ((p.take (nextM (ms.drop q) p.length)).drop a) := by
  intro r
  induction r with
  | zero =>
    intro i hi hil
    obtain rfl : q = i := by omega
    have := hx q
    refine Gives.of fun k => ?_
    show sennitref20_lost.l0 (k + 1) p ms (q : Int) (a : Int) _ _ = _
    rw [sennitref20_lost.l0, if_neg (by omega), if_pos (by omega), if_pos (by omega), if_pos (by omega), Int.toNat_natCast, Int.toNat_natCast]
  | succ r ih =>
    intro i hi hil
    obtain ⟨j, rfl⟩ : ∃ j, i = j + 1 := ⟨i - 1, by omega⟩
    have hj : j < ms.length := by omega
    have e : (((j + 1 : Nat) : Int) - 1) = (j : Int) := by omega
    have := ih j (by omega) (by omega)
    rw [e]
    refine this.step fun k => ?_
    show sennitref20_lost.l0 (k + 1) p ms (q : Int) (a : Int) _ _ = _
    rw [sennitref20_lost.l0, if_pos (by omega), if_pos (by omega), if_pos (by omega), rdN hj, gw (x := (j : Int) - 1) (by omega) (by omega)]
    have hn : nextM (ms.drop j) p.length = if 0 ≤ ms[j] then ms[j].toNat else nextM (ms.drop (j + 1)) p.length := by rw [dropCons hj, nextM]
    rw [hn]
    by_cases h : 0 ≤ ms[j]
    · rw [if_pos h, if_pos h, Int.toNat_of_nonneg h]
    · rw [if_neg h, if_neg h]
theorem ref_lost20 {p ss : List ByteArray} {ms : List Int} (hF : Fits p ms ss 0) (hp : p.length ≤ 100000) (hml : ms.length ≤ 100000) (q : Nat) (hq : q ≤ ms.length) : Gives (fun k => sennitref20_lost.f k p ms (q : Int)) (segL p ms q) := by
  have hj : ∀ a, fromM ms q = some a → Gives (fun k => sennitref20_lost.j0 k p ms (q : Int) (a : Int)) (segL p ms q) := fun a ha => by
    have := ref_lost20_l0 hp hml hF.drop_next (hF.from_le ha) (ms.length - q) ms.length (by omega) (Nat.le_refl _)
    rw [List.drop_of_length_le (Nat.le_refl _)] at this
    rw [segL, ha]
    refine this.step fun k => ?_
    show sennitref20_lost.j0 (k + 1) p ms (q : Int) (a : Int) = _
    rw [sennitref20_lost.j0, gw (by omega) (by omega)]; rfl
  cases q with
  | zero =>
    refine (hj 0 rfl).same fun k => ?_
    show sennitref20_lost.f k p ms 0 = _
    rw [sennitref20_lost.f, if_neg (by decide)]; rfl
  | succ q =>
    have hql : q < ms.length := by omega
    have hg : ms.getD q (-1) = ms[q] := by rw [List.getD_eq_getElem?_getD, List.getElem?_eq_getElem hql]; rfl
    have ew : wrap64 (((q + 1 : Nat) : Int) - 1) = (q : Int) := by rw [gw (by omega) (by omega)]; omega
    rcases hF.at_ q hql with h1 | ⟨a, h1, _, h3, _⟩
    · have hn : fromM ms (q + 1) = none := by rw [fromM, h1, if_neg (by decide)]
      rw [segL_none hn]
      refine Gives.pure fun k => ?_
      show sennitref20_lost.f k p ms ((q + 1 : Nat) : Int) = _
      rw [sennitref20_lost.f, if_pos (by omega), ew, if_pos (by omega), if_pos (by omega), rdN hql, ← hg, if_pos h1]
    · have hn : fromM ms (q + 1) = some (a + 1) := by rw [fromM, h1, if_pos (by omega), Int.toNat_natCast]
      refine (hj (a + 1) hn).same fun k => ?_
      show sennitref20_lost.f k p ms ((q + 1 : Nat) : Int) = _
      rw [sennitref20_lost.f, if_pos (by omega), ew, if_pos (by omega), if_pos (by omega), rdN hql, ← hg, if_neg (by omega), h1, gw1 (by omega)]
section
variable {result : List ByteArray} {ls : List (List ByteArray)}
theorem FewT.segs (h : FewT result ls) (q : Nat) : (segsL result ls q).length ≤ 6 ∧ ∀ l ∈ segsL result ls q, l.length ≤ 20 ∧ ∀ s ∈ l, s.size ≤ 100 := by
  refine ⟨by rw [segsL_length]; exact h.2.1, fun l hl => ?_⟩
  obtain ⟨p, hp, rfl⟩ := List.mem_map.1 hl
  have h4 := h.2.2 p hp
  have := segL_length_le p (matchS result p) q
  exact ⟨by omega, fun s hs => h4.2 s (segL_mem hs)⟩
theorem ref_ahead20 (h : FewT result ls) (q : Nat) (hq : q ≤ result.length) : Gives (fun k => sennitref20_ahead.f k ls (ls.map (matchS result)) (q : Int)) (segRows result ls q, 0) := by
  have hl : ∀ (r i : Nat), i + r = ls.length → Gives (fun k => sennitref20_ahead.l0 k ls (ls.map (matchS result)) (q : Int) (segsL result (ls.take i) q) (i : Int)) (segRows result ls q, 0) := by
    intro r
    induction r with
    | zero =>
      intro i hi
      have hs := h.segs q
      have := ref_Coalesce (segsL result ls q) (few_small hs.1 hs.2)
      rw [segsL_length] at this
      refine Gives.last this fun k hk => ?_
      show sennitref20_ahead.l0 (k + 1) ls _ (q : Int) _ (i : Int) = _
      rw [List.take_of_length_le (by omega), sennitref20_ahead.l0, if_neg (by omega), hk, Option.bind_some]; rfl
    | succ r ih =>
      intro i hi
      have hil : i < ls.length := by omega
      have e : rd_L1 ls (i : Int) = ls[i] := getN hil
      have e2 : rd_L7 (ls.map (matchS result)) (i : Int) = matchS result ls[i] := by
        have : rd_L7 (ls.map (matchS result)) (i : Int) = (ls.map (matchS result))[i]'(by simpa using hil) := getN (by simpa using hil)
        rw [this, List.getElem_map]
      have hp := h.2.2 ls[i] (List.getElem_mem _)
      have hr := h.1.1
      have hlost := ref_lost20 (matchS_fits result ls[i]) (by omega) (by rw [matchS_length]; omega) q (by rw [matchS_length]; exact hq)
      have hs : segsL result (ls.take (i + 1)) q = segsL result (ls.take i) q ++ [segL ls[i] (matchS result ls[i]) q] := by
        rw [← List.take_append_getElem hil, segsL, List.map_append]; rfl
      have hlen : (segsL result (ls.take i) q).length ≤ 6 := by rw [segsL_length, List.length_take]; have := h.2.1; omega
      have := ih (i + 1) (by omega)
      rw [hs] at this
      refine Gives.call hlost this fun k hk => ?_
      show sennitref20_ahead.l0 (k + 1) ls _ (q : Int) _ (i : Int) = _
      have h6 := h.2.1
      rw [sennitref20_ahead.l0, if_pos (by omega), if_pos (by omega), if_pos (by rw [List.length_map]; omega), e, e2, hk, Option.bind_some, if_pos (by omega), gw1 (by omega)]
  exact (hl ls.length 0 (by omega)).same fun k => rfl
theorem segRows_len (result : List ByteArray) (ls : List (List ByteArray)) (q : Nat) : (segRows result ls q).length ≤ sumLen ls := by
  rw [segRows, List.length_map]
  refine Nat.le_trans (rowsOf_le _) ?_
  rw [segsL, sumLen, sumLen, List.map_map]
  induction ls with
  | nil => simp
  | cons p t ih =>
    simp only [List.map_cons, List.sum_cons, Function.comp_apply]
    have := segL_length_le p (matchS result p) q
    have := ih
    simp only [Function.comp_def] at this ⊢
    omega
theorem tableRows_len (result : List ByteArray) (ls : List (List ByteArray)) : ∀ q, q ≤ result.length → (tableRows result ls q).length ≤ q * (sumLen ls + 1)
  | 0, _ => by simp [tableRows]
  | q + 1, h => by
    have := tableRows_len result ls q (by omega)
    have h2 := segRows_len result ls q
    rw [tableRows_succ _ _ _ h, List.length_append, List.length_append, List.length_singleton, Nat.succ_mul]
    omega
theorem FewT.rows (h : FewT result ls) {q : Nat} (hq : q ≤ result.length) : (tableRows result ls q).length ≤ 2000 := by
  have h1 := tableRows_len result ls q hq
  have h2 := h.sum
  have h3 := h.1.1
  have : q * (sumLen ls + 1) ≤ 16 * 97 := Nat.mul_le_mul (by omega) (by omega)
  omega
theorem FewT.all (h : FewT result ls) : (tableAll result ls).length ≤ 3000 := by
  rw [tableAll_eq, List.length_append]
  have := h.rows (Nat.le_refl _)
  have := segRows_len result ls result.length
  have := h.sum
  omega
theorem ref_Table_l2 (h : FewT result ls) (q : Nat) (hq : q < result.length) (rows : List ApiRow) (hrows : rows.length ≤ 3000) {R : List ApiRow × Int}
    (hR : Gives (fun k => sennitref20_Table.l1 k result ls (ls.map (matchS result)) (rows ++ [⟨bs (marksU result ls q), result[q]⟩]) ((q + 1 : Nat) : Int)) R) : ∀ (r i : Nat), i + r = ls.length →
    Gives (fun k => sennitref20_Table.l2 k result ls (ls.map (matchS result)) rows (q : Int) (bs (marksU result (ls.take i) q)) (i : Int)) R := by
  have h6 := h.2.1
  have h16 := h.1.1
  intro r
  induction r with
  | zero =>
    intro i hi
    refine hR.step fun k => ?_
    show sennitref20_Table.l2 (k + 1) result ls _ rows (q : Int) _ (i : Int) = _
    rw [List.take_of_length_le (by omega), sennitref20_Table.l2, if_neg (by omega), if_pos (by omega), if_pos (by omega), if_pos (by omega), rdOfN hq, gw1 (by omega)]
  | succ r ih =>
    intro i hi
    have hil : i < ls.length := by omega
    have hql : q < (matchS result ls[i]).length := by rw [matchS_length]; exact hq
    have e2 : rd_L7 (ls.map (matchS result)) (i : Int) = matchS result ls[i] := by
      have : rd_L7 (ls.map (matchS result)) (i : Int) = (ls.map (matchS result))[i]'(by simpa using hil) := getN (by simpa using hil)
      rw [this, List.getElem_map]
    have hg : (matchS result ls[i]).getD q 0 = (matchS result ls[i])[q] := by rw [List.getD_eq_getElem?_getD, List.getElem?_eq_getElem hql]; rfl
    have hs : marksU result (ls.take (i + 1)) q = marksU result (ls.take i) q ++ [if 0 ≤ (matchS result ls[i])[q] then 32 else 43] := by
      rw [← List.take_append_getElem hil, marksU, List.map_append, ← hg]; rfl
    have hz : (bs (marksU result (ls.take i) q)).size ≤ 6 := by rw [bs_size, marksU, List.length_map, List.length_take]; omega
    have := ih (i + 1) (by omega)
    rw [hs, ← bs_append] at this
    refine this.step fun k => ?_
    show sennitref20_Table.l2 (k + 1) result ls _ rows (q : Int) _ (i : Int) = _
    rw [sennitref20_Table.l2, if_pos (by omega), if_pos (by omega), if_pos (by rw [List.length_map]; omega), if_pos (by omega), e2, if_pos (by omega), rdN hql, gw1 (by omega)]
    by_cases hm : 0 ≤ (matchS result ls[i])[q]
    · rw [if_pos hm, if_pos (by omega)]
      first | rfl | (rw [if_pos hm]; rfl)
    · rw [if_neg hm, if_pos (by omega)]
      first | rfl | (rw [if_neg hm]; rfl)
theorem ref_Table_l1 (h : FewT result ls) : ∀ (r q : Nat), q + r = result.length → Gives (fun k => sennitref20_Table.l1 k result ls (ls.map (matchS result)) (tableRows result ls q) (q : Int)) (tableAll result ls, 0) := by
  have h16 := h.1.1
  have h96 := h.sum
  intro r
  induction r with
  | zero =>
    intro q hq
    obtain rfl : q = result.length := by omega
    have ha := ref_ahead20 h result.length (Nat.le_refl _)
    have h1 := h.rows (Nat.le_refl _)
    have h2 := segRows_len result ls result.length
    refine Gives.last ha fun k hk => ?_
    show sennitref20_Table.l1 (k + 1) result ls _ _ (result.length : Int) = _
    rw [sennitref20_Table.l1, if_pos (by omega), hk, Option.bind_some, if_pos rfl, if_pos (by simp only; omega), Option.bind_some, if_pos rfl, tableAll_eq]
  | succ r ih =>
    intro q hq
    have hql : q < result.length := by omega
    have ha := ref_ahead20 h q (by omega)
    have h1 := h.rows (q := q) (by omega)
    have h2 := segRows_len result ls q
    have hn := ih (q + 1) (by omega)
    rw [tableRows_succ _ _ _ hql] at hn
    have h3 := ref_Table_l2 h q hql (tableRows result ls q ++ segRows result ls q) (by rw [List.length_append]; omega) hn ls.length 0 (by omega)
    refine Gives.call ha h3 fun k hk => ?_
    show sennitref20_Table.l1 (k + 1) result ls _ _ (q : Int) = _
    rw [sennitref20_Table.l1, if_pos (by omega), hk, Option.bind_some, if_pos rfl, if_pos (by simp only; omega), Option.bind_some, if_neg (by omega)]; rfl
theorem ref_Table_l0 (h : FewT result ls) : ∀ (r i : Nat), i + r = ls.length → Gives (fun k => sennitref20_Table.l0 k result ls (idsAll (result :: ls)) ((ls.take i).map (matchS result)) (i : Int)) (tableAll result ls, 0) := by
  have h6 := h.2.1
  have h16 := h.1.1
  have hlen : (idsAll (result :: ls)).length = ls.length + 1 := by rw [idsAll_map, List.length_map, List.length_cons]
  have hget : ∀ (j : Nat) (hj : j < (result :: ls).length), rd_L7 (idsAll (result :: ls)) (j : Int) = ((result :: ls)[j]).map (num (tabOf [] (result :: ls))) := fun j hj => by
    have hj' : j < (idsAll (result :: ls)).length := by rw [hlen]; simpa using hj
    have : rd_L7 (idsAll (result :: ls)) (j : Int) = (idsAll (result :: ls))[j] := getN hj'
    rw [this]
    simp only [idsAll_map, List.getElem_map]
  intro r
  induction r with
  | zero =>
    intro i hi
    have := ref_Table_l1 h result.length 0 (by omega)
    refine this.step fun k => ?_
    show sennitref20_Table.l0 (k + 1) result ls _ _ (i : Int) = _
    rw [List.take_of_length_le (by omega), sennitref20_Table.l0, if_neg (by omega)]; rfl
  | succ r ih =>
    intro i hi
    have hil : i < ls.length := by omega
    have g0 := hget 0 (by simp)
    have g1 := hget (i + 1) (by simp; omega)
    have hp := h.2.2 ls[i] (List.getElem_mem _)
    have hm := match_gives (a := result.map (num (tabOf [] (result :: ls)))) (b := ls[i].map (num (tabOf [] (result :: ls)))) (by rw [List.length_map]; omega) (by rw [List.length_map]; omega)
    rw [matchS_num (fun x hx => tabAll (List.mem_cons_self ..) hx)] at hm
    have hs : (ls.take (i + 1)).map (matchS result) = (ls.take i).map (matchS result) ++ [matchS result ls[i]] := by
      rw [← List.take_append_getElem hil, List.map_append]; rfl
    have := ih (i + 1) (by omega)
    rw [hs] at this
    refine Gives.call hm this fun k hk => ?_
    show sennitref20_Table.l0 (k + 1) result ls _ _ (i : Int) = _
    have e0 : rd_L7 (idsAll (result :: ls)) 0 = result.map (num (tabOf [] (result :: ls))) := g0
    have e1 : rd_L7 (idsAll (result :: ls)) ((i + 1 : Nat) : Int) = ls[i].map (num (tabOf [] (result :: ls))) := g1
    rw [sennitref20_Table.l0, if_pos (by omega), if_pos (by rw [hlen]; omega), gw1 (by omega), if_pos (by omega), if_pos (by rw [hlen]; omega), e0, e1, hk, Option.bind_some, if_pos (by rw [List.length_map, List.length_take]; omega)]
theorem ref_Table20 (h : FewT result ls) : Gives (fun k => sennitref20_Table.f k result ls) (tableF result ls) := by
  have hw := ref_wrong20 h
  have h6 := h.2.1
  have h16 := h.1.1
  by_cases h0 : wrongF mayL (result :: ls) = 0
  · have hall := ref_all (result :: ls) (by simp; omega) (fun l hl => by
      rcases List.mem_cons.1 hl with rfl | hl
      · omega
      · have := (h.2.2 l hl).1; omega) (by
      have := h.sum
      simp only [sumLen] at this
      simp only [List.map_cons, List.sum_cons]; omega)
    have ht := ref_Table_l0 h ls.length 0 (by omega)
    rw [tableF, if_neg (by simpa using h0)]
    refine Gives.call0 hw (Gives.call0 hall ht (f := fun k => (sennitref02_All.f k (result :: ls)).bind fun t129 => (sennitref20_Table.l0 k result ls t129 ([] : List (List Int)) 0)) fun k hk => ?_) fun k hk => ?_
    · show Option.bind _ _ = _
      rw [hk, Option.bind_some]; rfl
    · show sennitref20_Table.f k result ls = _
      rw [sennitref20_Table.f, hk, Option.bind_some, if_pos h0, Option.bind_some, if_pos (by simp; omega)]; rfl
  · rw [tableF, if_pos h0]
    refine Gives.last0 hw fun k hk => ?_
    show sennitref20_Table.f k result ls = _
    rw [sennitref20_Table.f, hk, Option.bind_some, if_neg h0]
theorem tableF_len (h : FewT result ls) : (tableF result ls).1.length ≤ 3000 := by
  unfold tableF
  split
  · simp
  · exact h.all
end
theorem tells20 (result : List ByteArray) (ls : List (List ByteArray)) : Gives (fun k => sennitlaw20_TableTells.f k result ls) true := by
  obtain ⟨b, h1, h2⟩ := ref_Few20 result ls
  cases b with
  | false =>
    refine Gives.last0 h1 fun k hk => ?_
    show sennitlaw20_TableTells.f k result ls = _
    rw [sennitlaw20_TableTells.f, awake20, Option.bind_some, hk, Option.bind_some, if_neg (by decide)]
  | true =>
    have h := h2 rfl
    have hr := ref_Table20 h
    have hs := (ref_Same19 (tableF result ls).1 (tableF result ls).1 (by have := tableF_len h; omega)).eq (decide_eq_true rfl)
    obtain ⟨K1, k1⟩ := h1
    obtain ⟨K2, k2⟩ := hr
    obtain ⟨K3, k3⟩ := hs
    refine ⟨K1 + K2 + K3, fun k hk => ?_⟩
    have e1 : sennitref20_Few.f k result ls = some true := k1 k (by omega)
    have e2 : sennitref20_Table.f k result ls = some (tableF result ls) := k2 k (by omega)
    have e3 : sennitref19_Same.f k (tableF result ls).1 (tableF result ls).1 = some true := k3 k (by omega)
    show sennitlaw20_TableTells.f k result ls = _
    rw [sennitlaw20_TableTells.f, awake20, Option.bind_some, e1, Option.bind_some, if_pos rfl, h.table, Option.bind_some, e2, Option.bind_some, if_pos rfl, if_pos rfl, e3, Option.bind_some]
theorem law_TableTells (W : World) (A0 : Option Addr) (c0 : Nat) (l0 : List ByteArray) (hr0 : Kd.C Kd.string W A0 l0.length l0) (hc0 : l0.length ≤ c0) (g0 : l0.length * 16 ≤ 140737488351232 ∧ ∀ y ∈ l0, y.size ≤ 140737488351232) (A1 : Option Addr) (c1 : Nat) (l1 : List (List ByteArray)) (hr1 : Kd.C (Kd.slice 9 Kd.string) W A1 l1.length l1) (hc1 : l1.length ≤ c1) (g1 : l1.length * 24 ≤ 140737488351232 ∧ ∀ y ∈ l1, y.length * 16 ≤ 140737488351232 ∧ ∀ yy ∈ y, yy.size ≤ 140737488351232) :
    Calls Try.prog 9 #[.slice A0 l0.length c0, .slice A1 l1.length c1] W fun e w' => e = .returned (.bool true) ∧ Below W.heap.size W w' := by
  obtain ⟨k, hk⟩ := tells20 l0 l1
  exact sennitlaw20_TableTells.calls k A0 c0 l0 A1 c1 l1 true W hr0 hc0 hr1 hc1 (hk k (Nat.le_refl _))
end Go.Proofs.Ytnlekganlliikaa.X
