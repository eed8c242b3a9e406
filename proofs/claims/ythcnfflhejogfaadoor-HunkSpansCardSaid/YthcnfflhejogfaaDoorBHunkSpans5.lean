/-
  Parts of one proof, one behind the other: XBn1, XCn1, XHk1, XHk2, XHk3, XHk4, XHk5, XHk6, XHk7.
-/
import Derived.Test.YthcnfflhejogfaaDoorBHunkSpans4
import Derived.Lib.SplitLaws
-- part XBn1
namespace Go.Proofs.YthcnfflhejogfaaDoor.X
open Go.RowKit Go.Proofs.YthcnfflhejogfaaDoorW.PrintWords Go.Proofs.YthcnfflhejogfaaDoorW.PrintLast Go.Proofs.YthcnfflhejogfaaDoorW.PrintMore
attribute [local go_sem] max2_int min2_int max_two min_two max_three min_three max_four min_four   -- for this text's walks alone
set_option linter.unusedVariables false
set_option linter.unusedSimpArgs false
def hunk_marked.f (a0_0 : ByteArray) (a0_1 : ByteArray) : Option (Bool) := (strings_Trim.f a0_0 (⟨#[32]⟩ : ByteArray)).bind fun t102 => (some (t102.toList != ([] : List UInt8)))
set_option maxHeartbeats 8000000 in
set_option maxRecDepth 100000 in
theorem hunk_marked.calls (a0_0 : ByteArray) (a0_1 : ByteArray) (r : Bool) (w : World) (h : hunk_marked.f a0_0 a0_1 = some r) :
    Calls Tryd.prog 84 #[.agg #[.string a0_0, .string a0_1]] w fun e w' => e = .returned (.bool r) ∧ Below w.heap.size w w' := by
  have hu57 := Tryd.underlying57
  have HB := Aside0.mk (Below.refl w.heap.size w)
  have H : ((strings_Trim.f a0_0 (⟨#[32]⟩ : ByteArray)).bind fun t102 => (some (t102.toList != ([] : List UInt8)))) = some r := h
  clear h
  replace H := Option.bind_eq_some_iff.mp H
  obtain ⟨t102, A20, H⟩ := H
  replace H : (some (t102.toList != ([] : List UInt8))) = some r := H
  have A2 := Aside0.mk A20
  clear A20
  obtain rfl := Option.some.inj H
  go_enter Tryd.func84, Tryd.ntmps84
  go_wp2_with (first | ((with_reducible refine gate_dst (N := 1) rfl ?_); refine box_event ?hg (N := 1) ?hd (cs := #[.string a0_0, .string a0_1]) (t := 57) ?hr ?_; (case hd => rfl); (case hg => rfl); (case hr => first | (go_simp; done) | (go_simp; rfl)); intro gb101 hg w3 hbox hb; have n0_ := Aside0.mk (below_step (by repeat (first | (with_reducible first | exact HB.out | apply below_alloc | apply pw_below_drewN | apply below_drew1) | exact HB.out)) hb); have n1_ := Aside0.mk (hbox); have n2_ := Aside0.mk ((by rw [hg]; exact (below_size (by repeat (first | (with_reducible first | exact HB.out | apply below_alloc | apply pw_below_drewN | apply below_drew1) | exact HB.out))) : w.heap.size ≤ gb101)); have n3_ := Aside0.mk ((by rw [hg]; exact (below_size (by repeat (first | (with_reducible first | exact HB.out | apply below_alloc | apply pw_below_drewN | apply below_drew1) | exact HB.out))) : w.heap.size ≤ gb101)); clear HB; have HB := n0_; have BK101 := n1_; have GW101 := n2_; have GE101 := n3_; clear n0_ n1_ n2_ n3_; clear hb hbox hg; have hcz4_0 : w3.cell? ⟨gb101, 0, none⟩ = some (.string a0_0) := (blk_cell BK101.out 0).trans rfl; have hcz4_1 : w3.cell? ⟨gb101, 1, none⟩ = some (.string a0_1) := (blk_cell BK101.out 1).trans rfl; have hfz4_0 := blk_frozen BK101.out 0; have hfz4_1 := blk_frozen BK101.out 1) | ((with_reducible refine gate_callee (f := 64) rfl ?_); refine goesL_ (some 5) rfl rfl Tryd.func64 (by kernel_rfl) rfl #[.string a0_0, .string (⟨#[32]⟩ : ByteArray)] rfl (by (try simp only [List.map_toArray, List.map_cons, List.map_nil]); first | done | rfl | (simp only [List.length_drop, List.length_take]; rfl)) ?_; (with_reducible refine (strings_Trim.calls a0_0 (⟨#[32]⟩ : ByteArray) t102 _ A2.out).mono ?_); rintro e w5 ⟨rfl, hb⟩; refine ⟨_, rfl, ?_⟩; have n0_ := Aside0.mk (blk_below (g := gb101) (o := .cells #[.string a0_0, .string a0_1] 57 (0, 0)) (by (with_reducible repeat (first | refine blk_drewN ?_ _ | refine blk_drew ?_ | refine blk_alloc ?_ _)); exact BK101.out) hb); have n1_ := Aside0.mk (below_step (by repeat (first | (with_reducible first | exact HB.out | apply below_alloc | apply pw_below_drewN | apply below_drew1 | refine below_set ?_ GE101.out) | exact HB.out)) hb); clear BK101; clear HB; have BK101 := n0_; have HB := n1_; clear n0_ n1_; (try clear hb); (try clear hb2); (try clear hk); (try clear hi)))
  go_ret
  exact ⟨by first | rfl | (simp [errW_none, errW_some] <;> rfl) | (simp [errW_none, errW_some]; done) | (simp [errW_none, errW_some]; cases ByteArray.toList _ <;> rfl) | (simp [*, errW_none, errW_some] <;> rfl), by repeat (first | (with_reducible first | exact HB.out | apply below_alloc | apply pw_below_drewN | apply below_drew1 | refine below_set ?_ GE101.out) | exact HB.out)⟩

def hunk_May.l0 : Nat → List (S57) → List (S57) → Int → Int → Option (Bool)
  | 0, _, _, _, _ => none
  | k + 1, x0, x8, x9, x10 => if x10 < x9 then (if 0 ≤ x10 then (if x10 < (x8.length : Int) then ((strings_Trim.f ((rd_T57 x8 x10).f0) (⟨#[32, 43, 45]⟩ : ByteArray)).bind fun t105 => ((strings_Contains.f ((rd_T57 x8 x10).f0) (⟨#[43]⟩ : ByteArray)).bind fun t106 => (if t106 = true then ((strings_Contains.f ((rd_T57 x8 x10).f0) (⟨#[45]⟩ : ByteArray)).bind fun t107 => (if 0 < (x0.length : Int) then (if (((rd_T57 x8 x10).f0).size : Int) = (((rd_T57 x0 0).f0).size : Int) then (if (((rd_T57 x8 x10).f0).size : Int) < 1 then (some false) else (if (((rd_T57 x8 x10).f0).size : Int) > 16 then (some false) else (if (t105.toList = ([] : List UInt8)) then (if t107 = true then (some false) else ((lines_May.f k (([(rd_T57 x8 x10).f1] : List ByteArray))).bind fun t112 => (if t112 = true then (hunk_May.l0 k x0 x8 x9 (wrap64 (x10 + 1))) else (some false)))) else (some false)))) else (some false)) else (none))) else (if 0 < (x0.length : Int) then (if (((rd_T57 x8 x10).f0).size : Int) = (((rd_T57 x0 0).f0).size : Int) then (if (((rd_T57 x8 x10).f0).size : Int) < 1 then (some false) else (if (((rd_T57 x8 x10).f0).size : Int) > 16 then (some false) else (if (t105.toList = ([] : List UInt8)) then ((lines_May.f k (([(rd_T57 x8 x10).f1] : List ByteArray))).bind fun t117 => (if t117 = true then (hunk_May.l0 k x0 x8 x9 (wrap64 (x10 + 1))) else (some false))) else (some false)))) else (some false)) else (none))))) else (none)) else (none)) else (some true)
def hunk_May.f (k : Nat) (l0 : List (S57)) : Option (Bool) := hunk_May.l0 k l0 l0 (l0.length : Int) 0
theorem hunk_May.mono_l : ∀ k, (∀ y0 y1 y2 y3, LeO (hunk_May.l0 k y0 y1 y2 y3) (hunk_May.l0 (k + 1) y0 y1 y2 y3))
  | 0 => fun _ _ _ _ r h => by simp [hunk_May.l0] at h
  | k + 1 => by
    have ih0 := hunk_May.mono_l k
    · intro y0 y1 y2 y3
      unfold hunk_May.l0
      repeat' first
      | (with_reducible exact ih0 _ _ _ _)
      | (with_reducible exact lines_May.mono _ _)
      | (with_reducible exact LeO.refl _)
      | (with_reducible exact LeO.none _)
      | (with_reducible refine LeO.ite ?_ ?_)
      | (with_reducible refine LeO.bind ?_ (fun _ => ?_))
      | exact ih0 _ _ _ _
      | exact lines_May.mono _ _
      | exact LeO.none _
      | refine LeO.ite ?_ ?_
      | refine LeO.bind ?_ (fun _ => ?_)
theorem hunk_May.mono : ∀ a0 k, LeO (hunk_May.f k a0) (hunk_May.f (k + 1) a0) := by
  intro a0 k
  have ih0 := hunk_May.mono_l k
  unfold hunk_May.f
  repeat' first
      | (with_reducible exact ih0 _ _ _ _)
      | (with_reducible exact lines_May.mono _ _)
      | (with_reducible exact LeO.refl _)
      | (with_reducible exact LeO.none _)
      | (with_reducible refine LeO.ite ?_ ?_)
      | (with_reducible refine LeO.bind ?_ (fun _ => ?_))
      | exact ih0 _ _ _ _
      | exact lines_May.mono _ _
      | exact LeO.none _
      | refine LeO.ite ?_ ?_
      | refine LeO.bind ?_ (fun _ => ?_)
set_option maxHeartbeats 8000000 in
set_option maxRecDepth 100000 in
theorem hunk_May.calls (k : Nat) (A0 : Option Addr) (c0 : Nat) (l0 : List (S57)) (r : Bool) (w : World) (hr0 : Kd.C k57 w A0 l0.length l0) (hc0 : l0.length ≤ c0) (h : hunk_May.f k l0 = some r) :
    Calls Tryd.prog 35 #[.slice A0 l0.length c0] w fun e w' => e = .returned (.bool r) ∧ Below w.heap.size w w' := by
  have hu57 := Tryd.underlying57
  have HR0 := Aside0.mk hr0
  have HC0 := Aside0.mk hc0
  clear hr0 hc0
  have HB := Aside0.mk (Below.refl w.heap.size w)
  have H : (hunk_May.l0 k l0 l0 (l0.length : Int) 0) = some r := h
  clear h
  have H' := Aside0.mk H
  clear H
  go_enter Tryd.func35, Tryd.ntmps35
  go_wp2
  go_loopg [10] k (fun kq v10 w' => ∃ (x10_1 : Int), v10 = .int .i64 x10_1 ∧ Aside0 (hunk_May.l0 kq l0 l0 (l0.length : Int) x10_1 = some r) ∧ Aside0 (kq ≤ k) ∧ Aside0 (Below w.heap.size w w'))
  case atStart => exact ⟨(0), (by first | rfl | (simp; done) | (simp [*]; done)), H', ⟨Nat.le_refl _⟩, ⟨by repeat (first | (with_reducible first | exact HB.out | apply below_alloc | apply pw_below_drewN | apply below_drew1) | exact HB.out)⟩⟩
  case round =>
    clear H'
    obtain ⟨x10_1, rfl, HA, HK1, HB⟩ := hrel
    cases gk with
    | zero => exact absurd HA.out (by simp [hunk_May.l0])
    | succ k1 =>
      have H := HA.out
      clear HA
      simp only [hunk_May.l0] at H
      by_cases c2 : x10_1 < (l0.length : Int)
      · rw [if_pos c2] at H
        have c2b0 : decide (x10_1 < (l0.length : Int)) = true := decide_eq_true c2
        clear c2
        by_cases c3 : 0 ≤ x10_1
        · rw [if_pos c3] at H
          have c3b0 : decide (0 ≤ x10_1) = true := decide_eq_true c3
          clear c3
          by_cases c4 : x10_1 < (l0.length : Int)
          · rw [if_pos c4] at H
            have c4b0 : decide (x10_1 < (l0.length : Int)) = true := decide_eq_true c4
            clear c4
            replace H := Option.bind_eq_some_iff.mp H
            obtain ⟨t105, A50, H⟩ := H
            replace H : ((strings_Contains.f ((rd_T57 l0 x10_1).f0) (⟨#[43]⟩ : ByteArray)).bind fun t106 => (if t106 = true then ((strings_Contains.f ((rd_T57 l0 x10_1).f0) (⟨#[45]⟩ : ByteArray)).bind fun t107 => (if 0 < (l0.length : Int) then (if (((rd_T57 l0 x10_1).f0).size : Int) = (((rd_T57 l0 0).f0).size : Int) then (if (((rd_T57 l0 x10_1).f0).size : Int) < 1 then (some false) else (if (((rd_T57 l0 x10_1).f0).size : Int) > 16 then (some false) else (if (t105.toList = ([] : List UInt8)) then (if t107 = true then (some false) else ((lines_May.f k1 (([(rd_T57 l0 x10_1).f1] : List ByteArray))).bind fun t112 => (if t112 = true then (hunk_May.l0 k1 l0 l0 (l0.length : Int) (wrap64 (x10_1 + 1))) else (some false)))) else (some false)))) else (some false)) else (none))) else (if 0 < (l0.length : Int) then (if (((rd_T57 l0 x10_1).f0).size : Int) = (((rd_T57 l0 0).f0).size : Int) then (if (((rd_T57 l0 x10_1).f0).size : Int) < 1 then (some false) else (if (((rd_T57 l0 x10_1).f0).size : Int) > 16 then (some false) else (if (t105.toList = ([] : List UInt8)) then ((lines_May.f k1 (([(rd_T57 l0 x10_1).f1] : List ByteArray))).bind fun t117 => (if t117 = true then (hunk_May.l0 k1 l0 l0 (l0.length : Int) (wrap64 (x10_1 + 1))) else (some false))) else (some false)))) else (some false)) else (none)))) = some r := H
            have A5 := Aside0.mk A50
            clear A50
            replace H := Option.bind_eq_some_iff.mp H
            obtain ⟨t106, A60, H⟩ := H
            replace H : (if t106 = true then ((strings_Contains.f ((rd_T57 l0 x10_1).f0) (⟨#[45]⟩ : ByteArray)).bind fun t107 => (if 0 < (l0.length : Int) then (if (((rd_T57 l0 x10_1).f0).size : Int) = (((rd_T57 l0 0).f0).size : Int) then (if (((rd_T57 l0 x10_1).f0).size : Int) < 1 then (some false) else (if (((rd_T57 l0 x10_1).f0).size : Int) > 16 then (some false) else (if (t105.toList = ([] : List UInt8)) then (if t107 = true then (some false) else ((lines_May.f k1 (([(rd_T57 l0 x10_1).f1] : List ByteArray))).bind fun t112 => (if t112 = true then (hunk_May.l0 k1 l0 l0 (l0.length : Int) (wrap64 (x10_1 + 1))) else (some false)))) else (some false)))) else (some false)) else (none))) else (if 0 < (l0.length : Int) then (if (((rd_T57 l0 x10_1).f0).size : Int) = (((rd_T57 l0 0).f0).size : Int) then (if (((rd_T57 l0 x10_1).f0).size : Int) < 1 then (some false) else (if (((rd_T57 l0 x10_1).f0).size : Int) > 16 then (some false) else (if (t105.toList = ([] : List UInt8)) then ((lines_May.f k1 (([(rd_T57 l0 x10_1).f1] : List ByteArray))).bind fun t117 => (if t117 = true then (hunk_May.l0 k1 l0 l0 (l0.length : Int) (wrap64 (x10_1 + 1))) else (some false))) else (some false)))) else (some false)) else (none))) = some r := H
            have A6 := Aside0.mk A60
            clear A60
            by_cases c7 : t106 = true
            · subst c7
              have H1 : ((strings_Contains.f ((rd_T57 l0 x10_1).f0) (⟨#[45]⟩ : ByteArray)).bind fun t107 => (if 0 < (l0.length : Int) then (if (((rd_T57 l0 x10_1).f0).size : Int) = (((rd_T57 l0 0).f0).size : Int) then (if (((rd_T57 l0 x10_1).f0).size : Int) < 1 then (some false) else (if (((rd_T57 l0 x10_1).f0).size : Int) > 16 then (some false) else (if (t105.toList = ([] : List UInt8)) then (if t107 = true then (some false) else ((lines_May.f k1 (([(rd_T57 l0 x10_1).f1] : List ByteArray))).bind fun t112 => (if t112 = true then (hunk_May.l0 k1 l0 l0 (l0.length : Int) (wrap64 (x10_1 + 1))) else (some false)))) else (some false)))) else (some false)) else (none))) = some r := by rw [if_pos rfl] at H; exact H
              clear H
              have H := H1
              clear H1
              replace H := Option.bind_eq_some_iff.mp H
              obtain ⟨t107, A80, H⟩ := H
              replace H : (if 0 < (l0.length : Int) then (if (((rd_T57 l0 x10_1).f0).size : Int) = (((rd_T57 l0 0).f0).size : Int) then (if (((rd_T57 l0 x10_1).f0).size : Int) < 1 then (some false) else (if (((rd_T57 l0 x10_1).f0).size : Int) > 16 then (some false) else (if (t105.toList = ([] : List UInt8)) then (if t107 = true then (some false) else ((lines_May.f k1 (([(rd_T57 l0 x10_1).f1] : List ByteArray))).bind fun t112 => (if t112 = true then (hunk_May.l0 k1 l0 l0 (l0.length : Int) (wrap64 (x10_1 + 1))) else (some false)))) else (some false)))) else (some false)) else (none)) = some r := H
              have A8 := Aside0.mk A80
              clear A80
              by_cases c9 : 0 < (l0.length : Int)
              · rw [if_pos c9] at H
                have c9b0 : decide (0 < (l0.length : Int)) = true := decide_eq_true c9
                have c9b1 : decide (0 < l0.length) = true := decide_eq_true (by omega)
                clear c9
                by_cases c10 : (((rd_T57 l0 x10_1).f0).size : Int) = (((rd_T57 l0 0).f0).size : Int)
                · rw [if_pos c10] at H
                  have c10b0 : ((((rd_T57 l0 x10_1).f0).size : Int) == (((rd_T57 l0 0).f0).size : Int)) = true := beq_iff_eq.mpr c10
                  have c10b1 : ((((rd_T57 l0 x10_1).f0).size : Int) != (((rd_T57 l0 0).f0).size : Int)) = false := bne_eq_false_iff_eq.mpr c10
                  have c10b2 : (((rd_T57 l0 x10_1).f0).size == ((rd_T57 l0 0).f0).size) = true := by first | simpa using c10 | (simp at c10 ⊢; omega)
                  clear c10
                  by_cases c11 : (((rd_T57 l0 x10_1).f0).size : Int) < 1
                  · rw [if_pos c11] at H
                    have c11b0 : decide ((((rd_T57 l0 x10_1).f0).size : Int) < 1) = true := decide_eq_true c11
                    have c11b1 : decide (((rd_T57 l0 x10_1).f0).size < 1) = true := decide_eq_true (by omega)
                    clear c11
                    obtain rfl := Option.some.inj H
                    have p103 : 0 ≤ (x10_1 : Int) := of_decide_eq_true (by first | (with_reducible assumption) | assumption)
                    have q103 : x10_1 < (l0.length : Int) := of_decide_eq_true (by first | (with_reducible assumption) | assumption)
                    obtain ⟨ad103, e103, hx103_0, hx103_1⟩ := at_T57 HR0.out x10_1 p103 q103
                    cases e103
                    replace hx103_0 := (HB.out.cell (World.block_lt_of_cell? w _ hx103_0)).trans hx103_0
                    replace hx103_1 := (HB.out.cell (World.block_lt_of_cell? w _ hx103_1)).trans hx103_1
                    replace p103 := eq_true p103
                    replace q103 := eq_true q103
                    go_wp2_with (first | ((with_reducible refine gate_dst (N := 4) rfl ?_); (try (refine gate_guard (by rfl) ?_; dsimp only)); refine box_event ?hg (N := 4) ?hd (cs := #[.string (⟨#[]⟩ : ByteArray), .string (⟨#[]⟩ : ByteArray)]) (t := 57) ?hr ?_; (case hd => rfl); (case hg => rfl); (case hr => first | (go_simp; done) | (go_simp; rfl)); intro gb104 hg w12 hbox hb; have n0_ := Aside0.mk (below_step (by repeat (first | (with_reducible first | exact HB.out | apply below_alloc | apply pw_below_drewN | apply below_drew1) | exact HB.out)) hb); have n1_ := Aside0.mk (hbox); have n2_ := Aside0.mk ((by rw [hg]; exact (below_size (by repeat (first | (with_reducible first | exact HB.out | apply below_alloc | apply pw_below_drewN | apply below_drew1) | exact HB.out))) : w.heap.size ≤ gb104)); have n3_ := Aside0.mk ((by rw [hg]; exact (below_size (by repeat (first | (with_reducible first | exact HB.out | apply below_alloc | apply pw_below_drewN | apply below_drew1) | exact HB.out))) : w.heap.size ≤ gb104)); clear HB; have HB := n0_; have BK104 := n1_; have GW104 := n2_; have GE104 := n3_; clear n0_ n1_ n2_ n3_; clear hb hbox hg; have hcz13_0 : w12.cell? ⟨gb104, 0, none⟩ = some (.string (⟨#[]⟩ : ByteArray)) := (blk_cell BK104.out 0).trans rfl; have hcz13_1 : w12.cell? ⟨gb104, 1, none⟩ = some (.string (⟨#[]⟩ : ByteArray)) := (blk_cell BK104.out 1).trans rfl; have hfz13_0 := blk_frozen BK104.out 0; have hfz13_1 := blk_frozen BK104.out 1) | ((with_reducible refine gate_callee (f := 64) rfl ?_); refine goesL_ (some 19) rfl rfl Tryd.func64 (by kernel_rfl) rfl #[.string ((rd_T57 l0 x10_1).f0), .string (⟨#[32, 43, 45]⟩ : ByteArray)] rfl (by (try simp only [List.map_toArray, List.map_cons, List.map_nil]); first | done | rfl | (simp only [List.length_drop, List.length_take]; rfl)) ?_; (with_reducible refine (strings_Trim.calls ((rd_T57 l0 x10_1).f0) (⟨#[32, 43, 45]⟩ : ByteArray) t105 _ A5.out).mono ?_); rintro e w14 ⟨rfl, hb⟩; refine ⟨_, rfl, ?_⟩; have n0_ := Aside0.mk (blk_below (g := gb104) (o := .cells #[.string ((rd_T57 l0 x10_1).f0), .string ((rd_T57 l0 x10_1).f1)] 57 (0, 0)) (by (with_reducible repeat (first | refine blk_drewN ?_ _ | refine blk_drew ?_ | refine blk_alloc ?_ _)); refine blk_put (cs := #[.string ((rd_T57 l0 x10_1).f0), .string (⟨#[]⟩ : ByteArray)]) ?_ 1 _ rfl; (with_reducible repeat (first | refine blk_drewN ?_ _ | refine blk_drew ?_ | refine blk_alloc ?_ _)); refine blk_put (cs := #[.string (⟨#[]⟩ : ByteArray), .string (⟨#[]⟩ : ByteArray)]) ?_ 0 _ rfl; (with_reducible repeat (first | refine blk_drewN ?_ _ | refine blk_drew ?_ | refine blk_alloc ?_ _)); exact BK104.out) hb); have n1_ := Aside0.mk (below_step (by repeat (first | (with_reducible first | exact HB.out | apply below_alloc | apply pw_below_drewN | apply below_drew1 | refine below_set ?_ GE104.out) | exact HB.out)) hb); clear BK104; clear HB; have BK104 := n0_; have HB := n1_; clear n0_ n1_; (try clear hb); (try clear hb2); (try clear hk); (try clear hi); have hcz15_0 : w14.cell? ⟨gb104, 0, none⟩ = some (.string ((rd_T57 l0 x10_1).f0)) := (blk_cell BK104.out 0).trans rfl; have hcz15_1 : w14.cell? ⟨gb104, 1, none⟩ = some (.string ((rd_T57 l0 x10_1).f1)) := (blk_cell BK104.out 1).trans rfl; have hfz15_0 := blk_frozen BK104.out 0; have hfz15_1 := blk_frozen BK104.out 1) | ((with_reducible refine gate_callee (f := 62) rfl ?_); refine goesL_ (some 23) rfl rfl Tryd.func62 (by kernel_rfl) rfl #[.string ((rd_T57 l0 x10_1).f0), .string (⟨#[43]⟩ : ByteArray)] rfl (by (try simp only [List.map_toArray, List.map_cons, List.map_nil]); first | done | rfl | (simp only [List.length_drop, List.length_take]; rfl)) ?_; (with_reducible refine (strings_Contains.calls ((rd_T57 l0 x10_1).f0) (⟨#[43]⟩ : ByteArray) true _ A6.out).mono ?_); rintro e w' ⟨rfl, ⟨nd, rfl⟩⟩; refine ⟨_, rfl, ?_⟩) | (go_at_call 62; (with_reducible refine (strings_Contains.calls ((rd_T57 l0 x10_1).f0) (⟨#[45]⟩ : ByteArray) t107 _ A8.out).mono ?_); rintro e w' ⟨rfl, ⟨nd, rfl⟩⟩; have p108 : 0 ≤ (0 : Int) := (by omega); have q108 : 0 < (l0.length : Int) := of_decide_eq_true (by first | (with_reducible assumption) | assumption); obtain ⟨ad108, e108, hx108_0, hx108_1⟩ := at_T57 HR0.out 0 p108 q108; obtain rfl : ad103 = ad108 := (by injection e108); have qi108 : (0 < l0.length) = True := eq_true (by omega); (try rw [show ((0 : Int)).toNat = 0 from rfl] at hx108_0); (try rw [show 0 * 2 = 0 from rfl] at hx108_0); (try rw [Addr.add_zero'] at hx108_0); (try rw [show ((0 : Int)).toNat = 0 from rfl] at hx108_1); (try rw [show 0 * 2 = 0 from rfl] at hx108_1); (try rw [Addr.add_zero'] at hx108_1); replace hx108_0 := (HB.out.cell (World.block_lt_of_cell? w _ hx108_0)).trans hx108_0; replace hx108_1 := (HB.out.cell (World.block_lt_of_cell? w _ hx108_1)).trans hx108_1; replace p108 := eq_true p108; replace q108 := eq_true q108))
                    go_ret
                    exact ⟨by first | rfl | (simp [errW_none, errW_some] <;> rfl) | (simp [errW_none, errW_some]; done) | (simp [errW_none, errW_some]; cases ByteArray.toList _ <;> rfl) | (simp [*, errW_none, errW_some] <;> rfl), by repeat (first | (with_reducible first | exact HB.out | apply below_alloc | apply pw_below_drewN | apply below_drew1 | refine below_set ?_ GE104.out) | exact HB.out)⟩
                  · rw [if_neg c11] at H
                    have c11b0 : decide ((((rd_T57 l0 x10_1).f0).size : Int) < 1) = false := decide_eq_false c11
                    have c11b1 : decide (((rd_T57 l0 x10_1).f0).size < 1) = false := decide_eq_false (by omega)
                    clear c11
                    by_cases c16 : (((rd_T57 l0 x10_1).f0).size : Int) > 16
                    · rw [if_pos c16] at H
                      have c16b0 : decide (16 < (((rd_T57 l0 x10_1).f0).size : Int)) = true := decide_eq_true c16
                      have c16b1 : decide (16 < ((rd_T57 l0 x10_1).f0).size) = true := decide_eq_true (by omega)
                      clear c16
                      obtain rfl := Option.some.inj H
                      have p103 : 0 ≤ (x10_1 : Int) := of_decide_eq_true (by first | (with_reducible assumption) | assumption)
                      have q103 : x10_1 < (l0.length : Int) := of_decide_eq_true (by first | (with_reducible assumption) | assumption)
                      obtain ⟨ad103, e103, hx103_0, hx103_1⟩ := at_T57 HR0.out x10_1 p103 q103
                      cases e103
                      replace hx103_0 := (HB.out.cell (World.block_lt_of_cell? w _ hx103_0)).trans hx103_0
                      replace hx103_1 := (HB.out.cell (World.block_lt_of_cell? w _ hx103_1)).trans hx103_1
                      replace p103 := eq_true p103
                      replace q103 := eq_true q103
                      go_wp2_with (first | ((with_reducible refine gate_dst (N := 4) rfl ?_); (try (refine gate_guard (by rfl) ?_; dsimp only)); refine box_event ?hg (N := 4) ?hd (cs := #[.string (⟨#[]⟩ : ByteArray), .string (⟨#[]⟩ : ByteArray)]) (t := 57) ?hr ?_; (case hd => rfl); (case hg => rfl); (case hr => first | (go_simp; done) | (go_simp; rfl)); intro gb104 hg w17 hbox hb; have n0_ := Aside0.mk (below_step (by repeat (first | (with_reducible first | exact HB.out | apply below_alloc | apply pw_below_drewN | apply below_drew1) | exact HB.out)) hb); have n1_ := Aside0.mk (hbox); have n2_ := Aside0.mk ((by rw [hg]; exact (below_size (by repeat (first | (with_reducible first | exact HB.out | apply below_alloc | apply pw_below_drewN | apply below_drew1) | exact HB.out))) : w.heap.size ≤ gb104)); have n3_ := Aside0.mk ((by rw [hg]; exact (below_size (by repeat (first | (with_reducible first | exact HB.out | apply below_alloc | apply pw_below_drewN | apply below_drew1) | exact HB.out))) : w.heap.size ≤ gb104)); clear HB; have HB := n0_; have BK104 := n1_; have GW104 := n2_; have GE104 := n3_; clear n0_ n1_ n2_ n3_; clear hb hbox hg; have hcz18_0 : w17.cell? ⟨gb104, 0, none⟩ = some (.string (⟨#[]⟩ : ByteArray)) := (blk_cell BK104.out 0).trans rfl; have hcz18_1 : w17.cell? ⟨gb104, 1, none⟩ = some (.string (⟨#[]⟩ : ByteArray)) := (blk_cell BK104.out 1).trans rfl; have hfz18_0 := blk_frozen BK104.out 0; have hfz18_1 := blk_frozen BK104.out 1) | ((with_reducible refine gate_callee (f := 64) rfl ?_); refine goesL_ (some 19) rfl rfl Tryd.func64 (by kernel_rfl) rfl #[.string ((rd_T57 l0 x10_1).f0), .string (⟨#[32, 43, 45]⟩ : ByteArray)] rfl (by (try simp only [List.map_toArray, List.map_cons, List.map_nil]); first | done | rfl | (simp only [List.length_drop, List.length_take]; rfl)) ?_; (with_reducible refine (strings_Trim.calls ((rd_T57 l0 x10_1).f0) (⟨#[32, 43, 45]⟩ : ByteArray) t105 _ A5.out).mono ?_); rintro e w19 ⟨rfl, hb⟩; refine ⟨_, rfl, ?_⟩; have n0_ := Aside0.mk (blk_below (g := gb104) (o := .cells #[.string ((rd_T57 l0 x10_1).f0), .string ((rd_T57 l0 x10_1).f1)] 57 (0, 0)) (by (with_reducible repeat (first | refine blk_drewN ?_ _ | refine blk_drew ?_ | refine blk_alloc ?_ _)); refine blk_put (cs := #[.string ((rd_T57 l0 x10_1).f0), .string (⟨#[]⟩ : ByteArray)]) ?_ 1 _ rfl; (with_reducible repeat (first | refine blk_drewN ?_ _ | refine blk_drew ?_ | refine blk_alloc ?_ _)); refine blk_put (cs := #[.string (⟨#[]⟩ : ByteArray), .string (⟨#[]⟩ : ByteArray)]) ?_ 0 _ rfl; (with_reducible repeat (first | refine blk_drewN ?_ _ | refine blk_drew ?_ | refine blk_alloc ?_ _)); exact BK104.out) hb); have n1_ := Aside0.mk (below_step (by repeat (first | (with_reducible first | exact HB.out | apply below_alloc | apply pw_below_drewN | apply below_drew1 | refine below_set ?_ GE104.out) | exact HB.out)) hb); clear BK104; clear HB; have BK104 := n0_; have HB := n1_; clear n0_ n1_; (try clear hb); (try clear hb2); (try clear hk); (try clear hi); have hcz20_0 : w19.cell? ⟨gb104, 0, none⟩ = some (.string ((rd_T57 l0 x10_1).f0)) := (blk_cell BK104.out 0).trans rfl; have hcz20_1 : w19.cell? ⟨gb104, 1, none⟩ = some (.string ((rd_T57 l0 x10_1).f1)) := (blk_cell BK104.out 1).trans rfl; have hfz20_0 := blk_frozen BK104.out 0; have hfz20_1 := blk_frozen BK104.out 1) | ((with_reducible refine gate_callee (f := 62) rfl ?_); refine goesL_ (some 23) rfl rfl Tryd.func62 (by kernel_rfl) rfl #[.string ((rd_T57 l0 x10_1).f0), .string (⟨#[43]⟩ : ByteArray)] rfl (by (try simp only [List.map_toArray, List.map_cons, List.map_nil]); first | done | rfl | (simp only [List.length_drop, List.length_take]; rfl)) ?_; (with_reducible refine (strings_Contains.calls ((rd_T57 l0 x10_1).f0) (⟨#[43]⟩ : ByteArray) true _ A6.out).mono ?_); rintro e w' ⟨rfl, ⟨nd, rfl⟩⟩; refine ⟨_, rfl, ?_⟩) | (go_at_call 62; (with_reducible refine (strings_Contains.calls ((rd_T57 l0 x10_1).f0) (⟨#[45]⟩ : ByteArray) t107 _ A8.out).mono ?_); rintro e w' ⟨rfl, ⟨nd, rfl⟩⟩; have p108 : 0 ≤ (0 : Int) := (by omega); have q108 : 0 < (l0.length : Int) := of_decide_eq_true (by first | (with_reducible assumption) | assumption); obtain ⟨ad108, e108, hx108_0, hx108_1⟩ := at_T57 HR0.out 0 p108 q108; obtain rfl : ad103 = ad108 := (by injection e108); have qi108 : (0 < l0.length) = True := eq_true (by omega); (try rw [show ((0 : Int)).toNat = 0 from rfl] at hx108_0); (try rw [show 0 * 2 = 0 from rfl] at hx108_0); (try rw [Addr.add_zero'] at hx108_0); (try rw [show ((0 : Int)).toNat = 0 from rfl] at hx108_1); (try rw [show 0 * 2 = 0 from rfl] at hx108_1); (try rw [Addr.add_zero'] at hx108_1); replace hx108_0 := (HB.out.cell (World.block_lt_of_cell? w _ hx108_0)).trans hx108_0; replace hx108_1 := (HB.out.cell (World.block_lt_of_cell? w _ hx108_1)).trans hx108_1; replace p108 := eq_true p108; replace q108 := eq_true q108))
                      go_ret
                      exact ⟨by first | rfl | (simp [errW_none, errW_some] <;> rfl) | (simp [errW_none, errW_some]; done) | (simp [errW_none, errW_some]; cases ByteArray.toList _ <;> rfl) | (simp [*, errW_none, errW_some] <;> rfl), by repeat (first | (with_reducible first | exact HB.out | apply below_alloc | apply pw_below_drewN | apply below_drew1 | refine below_set ?_ GE104.out) | exact HB.out)⟩
                    · rw [if_neg c16] at H
                      have c16b0 : decide (16 < (((rd_T57 l0 x10_1).f0).size : Int)) = false := decide_eq_false c16
                      have c16b1 : decide (16 < ((rd_T57 l0 x10_1).f0).size) = false := decide_eq_false (by omega)
                      clear c16
                      by_cases c21 : (t105.toList = ([] : List UInt8))
                      · rw [if_pos c21] at H
                        have c21b0 : (t105.toList == ([] : List UInt8)) = true := beq_iff_eq.mpr c21
                        have c21b1 : (t105.toList != ([] : List UInt8)) = false := bne_eq_false_iff_eq.mpr c21
                        clear c21
                        by_cases c22 : t107 = true
                        · subst c22
                          have H1 : (some false) = some r := by rw [if_pos rfl] at H; exact H
                          clear H
                          have H := H1
                          clear H1
                          obtain rfl := Option.some.inj H
                          have p103 : 0 ≤ (x10_1 : Int) := of_decide_eq_true (by first | (with_reducible assumption) | assumption)
                          have q103 : x10_1 < (l0.length : Int) := of_decide_eq_true (by first | (with_reducible assumption) | assumption)
                          obtain ⟨ad103, e103, hx103_0, hx103_1⟩ := at_T57 HR0.out x10_1 p103 q103
                          cases e103
                          replace hx103_0 := (HB.out.cell (World.block_lt_of_cell? w _ hx103_0)).trans hx103_0
                          replace hx103_1 := (HB.out.cell (World.block_lt_of_cell? w _ hx103_1)).trans hx103_1
                          replace p103 := eq_true p103
                          replace q103 := eq_true q103
                          go_wp2_with (first | ((with_reducible refine gate_dst (N := 4) rfl ?_); (try (refine gate_guard (by rfl) ?_; dsimp only)); refine box_event ?hg (N := 4) ?hd (cs := #[.string (⟨#[]⟩ : ByteArray), .string (⟨#[]⟩ : ByteArray)]) (t := 57) ?hr ?_; (case hd => rfl); (case hg => rfl); (case hr => first | (go_simp; done) | (go_simp; rfl)); intro gb104 hg w23 hbox hb; have n0_ := Aside0.mk (below_step (by repeat (first | (with_reducible first | exact HB.out | apply below_alloc | apply pw_below_drewN | apply below_drew1) | exact HB.out)) hb); have n1_ := Aside0.mk (hbox); have n2_ := Aside0.mk ((by rw [hg]; exact (below_size (by repeat (first | (with_reducible first | exact HB.out | apply below_alloc | apply pw_below_drewN | apply below_drew1) | exact HB.out))) : w.heap.size ≤ gb104)); have n3_ := Aside0.mk ((by rw [hg]; exact (below_size (by repeat (first | (with_reducible first | exact HB.out | apply below_alloc | apply pw_below_drewN | apply below_drew1) | exact HB.out))) : w.heap.size ≤ gb104)); clear HB; have HB := n0_; have BK104 := n1_; have GW104 := n2_; have GE104 := n3_; clear n0_ n1_ n2_ n3_; clear hb hbox hg; have hcz24_0 : w23.cell? ⟨gb104, 0, none⟩ = some (.string (⟨#[]⟩ : ByteArray)) := (blk_cell BK104.out 0).trans rfl; have hcz24_1 : w23.cell? ⟨gb104, 1, none⟩ = some (.string (⟨#[]⟩ : ByteArray)) := (blk_cell BK104.out 1).trans rfl; have hfz24_0 := blk_frozen BK104.out 0; have hfz24_1 := blk_frozen BK104.out 1) | ((with_reducible refine gate_callee (f := 64) rfl ?_); refine goesL_ (some 19) rfl rfl Tryd.func64 (by kernel_rfl) rfl #[.string ((rd_T57 l0 x10_1).f0), .string (⟨#[32, 43, 45]⟩ : ByteArray)] rfl (by (try simp only [List.map_toArray, List.map_cons, List.map_nil]); first | done | rfl | (simp only [List.length_drop, List.length_take]; rfl)) ?_; (with_reducible refine (strings_Trim.calls ((rd_T57 l0 x10_1).f0) (⟨#[32, 43, 45]⟩ : ByteArray) t105 _ A5.out).mono ?_); rintro e w25 ⟨rfl, hb⟩; refine ⟨_, rfl, ?_⟩; have n0_ := Aside0.mk (blk_below (g := gb104) (o := .cells #[.string ((rd_T57 l0 x10_1).f0), .string ((rd_T57 l0 x10_1).f1)] 57 (0, 0)) (by (with_reducible repeat (first | refine blk_drewN ?_ _ | refine blk_drew ?_ | refine blk_alloc ?_ _)); refine blk_put (cs := #[.string ((rd_T57 l0 x10_1).f0), .string (⟨#[]⟩ : ByteArray)]) ?_ 1 _ rfl; (with_reducible repeat (first | refine blk_drewN ?_ _ | refine blk_drew ?_ | refine blk_alloc ?_ _)); refine blk_put (cs := #[.string (⟨#[]⟩ : ByteArray), .string (⟨#[]⟩ : ByteArray)]) ?_ 0 _ rfl; (with_reducible repeat (first | refine blk_drewN ?_ _ | refine blk_drew ?_ | refine blk_alloc ?_ _)); exact BK104.out) hb); have n1_ := Aside0.mk (below_step (by repeat (first | (with_reducible first | exact HB.out | apply below_alloc | apply pw_below_drewN | apply below_drew1 | refine below_set ?_ GE104.out) | exact HB.out)) hb); clear BK104; clear HB; have BK104 := n0_; have HB := n1_; clear n0_ n1_; (try clear hb); (try clear hb2); (try clear hk); (try clear hi); have hcz26_0 : w25.cell? ⟨gb104, 0, none⟩ = some (.string ((rd_T57 l0 x10_1).f0)) := (blk_cell BK104.out 0).trans rfl; have hcz26_1 : w25.cell? ⟨gb104, 1, none⟩ = some (.string ((rd_T57 l0 x10_1).f1)) := (blk_cell BK104.out 1).trans rfl; have hfz26_0 := blk_frozen BK104.out 0; have hfz26_1 := blk_frozen BK104.out 1) | ((with_reducible refine gate_callee (f := 62) rfl ?_); refine goesL_ (some 23) rfl rfl Tryd.func62 (by kernel_rfl) rfl #[.string ((rd_T57 l0 x10_1).f0), .string (⟨#[43]⟩ : ByteArray)] rfl (by (try simp only [List.map_toArray, List.map_cons, List.map_nil]); first | done | rfl | (simp only [List.length_drop, List.length_take]; rfl)) ?_; (with_reducible refine (strings_Contains.calls ((rd_T57 l0 x10_1).f0) (⟨#[43]⟩ : ByteArray) true _ A6.out).mono ?_); rintro e w' ⟨rfl, ⟨nd, rfl⟩⟩; refine ⟨_, rfl, ?_⟩) | (go_at_call 62; (with_reducible refine (strings_Contains.calls ((rd_T57 l0 x10_1).f0) (⟨#[45]⟩ : ByteArray) true _ A8.out).mono ?_); rintro e w' ⟨rfl, ⟨nd, rfl⟩⟩; have p108 : 0 ≤ (0 : Int) := (by omega); have q108 : 0 < (l0.length : Int) := of_decide_eq_true (by first | (with_reducible assumption) | assumption); obtain ⟨ad108, e108, hx108_0, hx108_1⟩ := at_T57 HR0.out 0 p108 q108; obtain rfl : ad103 = ad108 := (by injection e108); have qi108 : (0 < l0.length) = True := eq_true (by omega); (try rw [show ((0 : Int)).toNat = 0 from rfl] at hx108_0); (try rw [show 0 * 2 = 0 from rfl] at hx108_0); (try rw [Addr.add_zero'] at hx108_0); (try rw [show ((0 : Int)).toNat = 0 from rfl] at hx108_1); (try rw [show 0 * 2 = 0 from rfl] at hx108_1); (try rw [Addr.add_zero'] at hx108_1); replace hx108_0 := (HB.out.cell (World.block_lt_of_cell? w _ hx108_0)).trans hx108_0; replace hx108_1 := (HB.out.cell (World.block_lt_of_cell? w _ hx108_1)).trans hx108_1; replace p108 := eq_true p108; replace q108 := eq_true q108))
                          go_ret
                          exact ⟨by first | rfl | (simp [errW_none, errW_some] <;> rfl) | (simp [errW_none, errW_some]; done) | (simp [errW_none, errW_some]; cases ByteArray.toList _ <;> rfl) | (simp [*, errW_none, errW_some] <;> rfl), by repeat (first | (with_reducible first | exact HB.out | apply below_alloc | apply pw_below_drewN | apply below_drew1 | refine below_set ?_ GE104.out) | exact HB.out)⟩
                        · replace c22 := Bool.eq_false_iff.mpr c22
                          subst c22
                          have H1 : ((lines_May.f k1 (([(rd_T57 l0 x10_1).f1] : List ByteArray))).bind fun t112 => (if t112 = true then (hunk_May.l0 k1 l0 l0 (l0.length : Int) (wrap64 (x10_1 + 1))) else (some false))) = some r := by rw [if_neg (show ¬ (false = true) by decide)] at H; exact H
                          clear H
                          have H := H1
                          clear H1
                          obtain ⟨y109, hy109⟩ : ∃ y_ : List ByteArray, y_ = (([(rd_T57 l0 x10_1).f1] : List ByteArray)) := ⟨_, rfl⟩
                          replace H : ((lines_May.f k1 y109).bind fun t112 => (if t112 = true then (hunk_May.l0 k1 l0 l0 (l0.length : Int) (wrap64 (x10_1 + 1))) else (some false))) = some r := by first | (rw [hy109]; with_reducible exact H) | (have H2_ := (Option.bind_some _ _).symm.trans H; rw [hy109]; with_reducible exact H2_) | (have H2_ := (Option.bind_some _ _).symm.trans H; with_reducible exact H2_) | with_reducible exact H | (rw [hy109]; exact H) | exact H
                          have Ny109 := Aside0.mk hy109
                          clear hy109
                          replace H := Option.bind_eq_some_iff.mp H
                          obtain ⟨t112, A270, H⟩ := H
                          replace H : (if t112 = true then (hunk_May.l0 k1 l0 l0 (l0.length : Int) (wrap64 (x10_1 + 1))) else (some false)) = some r := H
                          have A27 := Aside0.mk A270
                          clear A270
                          by_cases c28 : t112 = true
                          · subst c28
                            have H1 : (hunk_May.l0 k1 l0 l0 (l0.length : Int) (wrap64 (x10_1 + 1))) = some r := by rw [if_pos rfl] at H; exact H
                            clear H
                            have H := H1
                            clear H1
                            have H' := Aside0.mk H
                            clear H
                            have p103 : 0 ≤ (x10_1 : Int) := of_decide_eq_true (by first | (with_reducible assumption) | assumption)
                            have q103 : x10_1 < (l0.length : Int) := of_decide_eq_true (by first | (with_reducible assumption) | assumption)
                            obtain ⟨ad103, e103, hx103_0, hx103_1⟩ := at_T57 HR0.out x10_1 p103 q103
                            cases e103
                            replace hx103_0 := (HB.out.cell (World.block_lt_of_cell? w _ hx103_0)).trans hx103_0
                            replace hx103_1 := (HB.out.cell (World.block_lt_of_cell? w _ hx103_1)).trans hx103_1
                            replace p103 := eq_true p103
                            replace q103 := eq_true q103
                            go_wp2_with (first | ((with_reducible refine gate_dst (N := 4) rfl ?_); (try (refine gate_guard (by rfl) ?_; dsimp only)); refine box_event ?hg (N := 4) ?hd (cs := #[.string (⟨#[]⟩ : ByteArray), .string (⟨#[]⟩ : ByteArray)]) (t := 57) ?hr ?_; (case hd => rfl); (case hg => rfl); (case hr => first | (go_simp; done) | (go_simp; rfl)); intro gb104 hg w29 hbox hb; have n0_ := Aside0.mk (below_step (by repeat (first | (with_reducible first | exact HB.out | apply below_alloc | apply pw_below_drewN | apply below_drew1) | exact HB.out)) hb); have n1_ := Aside0.mk (hbox); have n2_ := Aside0.mk ((by rw [hg]; exact (below_size (by repeat (first | (with_reducible first | exact HB.out | apply below_alloc | apply pw_below_drewN | apply below_drew1) | exact HB.out))) : w.heap.size ≤ gb104)); have n3_ := Aside0.mk ((by rw [hg]; exact (below_size (by repeat (first | (with_reducible first | exact HB.out | apply below_alloc | apply pw_below_drewN | apply below_drew1) | exact HB.out))) : w.heap.size ≤ gb104)); clear HB; have HB := n0_; have BK104 := n1_; have GW104 := n2_; have GE104 := n3_; clear n0_ n1_ n2_ n3_; clear hb hbox hg; have hcz30_0 : w29.cell? ⟨gb104, 0, none⟩ = some (.string (⟨#[]⟩ : ByteArray)) := (blk_cell BK104.out 0).trans rfl; have hcz30_1 : w29.cell? ⟨gb104, 1, none⟩ = some (.string (⟨#[]⟩ : ByteArray)) := (blk_cell BK104.out 1).trans rfl; have hfz30_0 := blk_frozen BK104.out 0; have hfz30_1 := blk_frozen BK104.out 1) | ((with_reducible refine gate_callee (f := 64) rfl ?_); refine goesL_ (some 19) rfl rfl Tryd.func64 (by kernel_rfl) rfl #[.string ((rd_T57 l0 x10_1).f0), .string (⟨#[32, 43, 45]⟩ : ByteArray)] rfl (by (try simp only [List.map_toArray, List.map_cons, List.map_nil]); first | done | rfl | (simp only [List.length_drop, List.length_take]; rfl)) ?_; (with_reducible refine (strings_Trim.calls ((rd_T57 l0 x10_1).f0) (⟨#[32, 43, 45]⟩ : ByteArray) t105 _ A5.out).mono ?_); rintro e w31 ⟨rfl, hb⟩; refine ⟨_, rfl, ?_⟩; have n0_ := Aside0.mk (blk_below (g := gb104) (o := .cells #[.string ((rd_T57 l0 x10_1).f0), .string ((rd_T57 l0 x10_1).f1)] 57 (0, 0)) (by (with_reducible repeat (first | refine blk_drewN ?_ _ | refine blk_drew ?_ | refine blk_alloc ?_ _)); refine blk_put (cs := #[.string ((rd_T57 l0 x10_1).f0), .string (⟨#[]⟩ : ByteArray)]) ?_ 1 _ rfl; (with_reducible repeat (first | refine blk_drewN ?_ _ | refine blk_drew ?_ | refine blk_alloc ?_ _)); refine blk_put (cs := #[.string (⟨#[]⟩ : ByteArray), .string (⟨#[]⟩ : ByteArray)]) ?_ 0 _ rfl; (with_reducible repeat (first | refine blk_drewN ?_ _ | refine blk_drew ?_ | refine blk_alloc ?_ _)); exact BK104.out) hb); have n1_ := Aside0.mk (below_step (by repeat (first | (with_reducible first | exact HB.out | apply below_alloc | apply pw_below_drewN | apply below_drew1 | refine below_set ?_ GE104.out) | exact HB.out)) hb); clear BK104; clear HB; have BK104 := n0_; have HB := n1_; clear n0_ n1_; (try clear hb); (try clear hb2); (try clear hk); (try clear hi); have hcz32_0 : w31.cell? ⟨gb104, 0, none⟩ = some (.string ((rd_T57 l0 x10_1).f0)) := (blk_cell BK104.out 0).trans rfl; have hcz32_1 : w31.cell? ⟨gb104, 1, none⟩ = some (.string ((rd_T57 l0 x10_1).f1)) := (blk_cell BK104.out 1).trans rfl; have hfz32_0 := blk_frozen BK104.out 0; have hfz32_1 := blk_frozen BK104.out 1) | ((with_reducible refine gate_callee (f := 62) rfl ?_); refine goesL_ (some 23) rfl rfl Tryd.func62 (by kernel_rfl) rfl #[.string ((rd_T57 l0 x10_1).f0), .string (⟨#[43]⟩ : ByteArray)] rfl (by (try simp only [List.map_toArray, List.map_cons, List.map_nil]); first | done | rfl | (simp only [List.length_drop, List.length_take]; rfl)) ?_; (with_reducible refine (strings_Contains.calls ((rd_T57 l0 x10_1).f0) (⟨#[43]⟩ : ByteArray) true _ A6.out).mono ?_); rintro e w' ⟨rfl, ⟨nd, rfl⟩⟩; refine ⟨_, rfl, ?_⟩) | (go_at_call 62; (with_reducible refine (strings_Contains.calls ((rd_T57 l0 x10_1).f0) (⟨#[45]⟩ : ByteArray) false _ A8.out).mono ?_); rintro e w' ⟨rfl, ⟨nd, rfl⟩⟩; have p108 : 0 ≤ (0 : Int) := (by omega); have q108 : 0 < (l0.length : Int) := of_decide_eq_true (by first | (with_reducible assumption) | assumption); obtain ⟨ad108, e108, hx108_0, hx108_1⟩ := at_T57 HR0.out 0 p108 q108; obtain rfl : ad103 = ad108 := (by injection e108); have qi108 : (0 < l0.length) = True := eq_true (by omega); (try rw [show ((0 : Int)).toNat = 0 from rfl] at hx108_0); (try rw [show 0 * 2 = 0 from rfl] at hx108_0); (try rw [Addr.add_zero'] at hx108_0); (try rw [show ((0 : Int)).toNat = 0 from rfl] at hx108_1); (try rw [show 0 * 2 = 0 from rfl] at hx108_1); (try rw [Addr.add_zero'] at hx108_1); replace hx108_0 := (HB.out.cell (World.block_lt_of_cell? w _ hx108_0)).trans hx108_0; replace hx108_1 := (HB.out.cell (World.block_lt_of_cell? w _ hx108_1)).trans hx108_1; replace p108 := eq_true p108; replace q108 := eq_true q108) | ((with_reducible refine gate_dst (N := 54) rfl ?_); (try (refine gate_guard (by rfl) ?_; dsimp only)); refine Kd.R_lit Kd.string _ 9 ?hg (N := 54) ?hd (xs := ([(rd_T57 l0 x10_1).f1] : List ByteArray)) (inner := [.string ((rd_T57 l0 x10_1).f1)]) (ok := fun _ => True) (okp := fun _ => True) ?hr ?hp (fun _ hk => hk) trivial (Below.refl _ _) (Nat.le_refl _) (by simp) ?_; (case hd => rfl); (case hg => rfl); (case hr => first | (go_simp; done) | (go_simp; rfl)); (case hp => exact (Reps.one (show Kd.M Kd.string _ _ _ ((rd_T57 l0 x10_1).f1) [.string ((rd_T57 l0 x10_1).f1)] from rfl) (Reps.none _ _))); intro v110 w33 ho34 hb hg_ hnew_; clear hg_ hnew_; (first | rw [← Ny109.out] at ho34 | (simp only [Int.reduceToNat] at ho34; rw [← Ny109.out] at ho34)); have n0_ := Aside0.mk (Kd.R_lower ho34 (below_size (by repeat (first | (with_reducible first | exact HB.out | apply below_alloc | apply pw_below_drewN | apply below_drew1 | refine below_set ?_ GE104.out) | exact HB.out)))); have n1_ := Aside0.mk (blk_below (g := gb104) (o := .cells #[.string ((rd_T57 l0 x10_1).f0), .string ((rd_T57 l0 x10_1).f1)] 57 (0, 0)) (by (with_reducible repeat (first | refine blk_drewN ?_ _ | refine blk_drew ?_ | refine blk_alloc ?_ _)); exact BK104.out) hb); have n2_ := Aside0.mk (below_step (by repeat (first | (with_reducible first | exact HB.out | apply below_alloc | apply pw_below_drewN | apply below_drew1 | refine below_set ?_ GE104.out) | exact HB.out)) hb); clear BK104; clear HB; have HO111 := n0_; have BK104 := n1_; have HB := n2_; clear n0_ n1_ n2_; clear hb ho34; obtain ⟨Ao35, co35, eo35⟩ := Kd.R_slice HO111.out; subst eo35) | (go_at_call 65; (with_reducible refine (lines_May.calls k1 _ _ y109 true _ ?side1 ?side2 A27.out).mono ?_); (case side1 => repeat (first | exact (Kd.R_reads' HO111.out).2.2 | (with_reducible refine Kd.C_alloc ?_ _) | (with_reducible refine Kd.C_drewN ?_ _) | (with_reducible refine Kd.C_drew ?_))); (case side2 => exact (Kd.R_reads' HO111.out).2.1); rintro e w' ⟨rfl, ⟨nd, rfl⟩⟩))
                            go_roundg k1
                            case measure => have := HK1.out; omega
                            case rel => exact ⟨(wrap64 (x10_1 + 1)), (by first | rfl | (simp; done) | (simp [*]; done)), H', ⟨by have := HK1.out; omega⟩, ⟨by repeat (first | (with_reducible first | exact HB.out | apply below_alloc | apply pw_below_drewN | apply below_drew1 | refine below_set ?_ GE104.out) | exact HB.out)⟩⟩
                          · replace c28 := Bool.eq_false_iff.mpr c28
                            subst c28
                            have H1 : (some false) = some r := by rw [if_neg (show ¬ (false = true) by decide)] at H; exact H
                            clear H
                            have H := H1
                            clear H1
                            obtain rfl := Option.some.inj H
                            have p103 : 0 ≤ (x10_1 : Int) := of_decide_eq_true (by first | (with_reducible assumption) | assumption)
                            have q103 : x10_1 < (l0.length : Int) := of_decide_eq_true (by first | (with_reducible assumption) | assumption)
                            obtain ⟨ad103, e103, hx103_0, hx103_1⟩ := at_T57 HR0.out x10_1 p103 q103
                            cases e103
                            replace hx103_0 := (HB.out.cell (World.block_lt_of_cell? w _ hx103_0)).trans hx103_0
                            replace hx103_1 := (HB.out.cell (World.block_lt_of_cell? w _ hx103_1)).trans hx103_1
                            replace p103 := eq_true p103
                            replace q103 := eq_true q103
                            go_wp2_with (first | ((with_reducible refine gate_dst (N := 4) rfl ?_); (try (refine gate_guard (by rfl) ?_; dsimp only)); refine box_event ?hg (N := 4) ?hd (cs := #[.string (⟨#[]⟩ : ByteArray), .string (⟨#[]⟩ : ByteArray)]) (t := 57) ?hr ?_; (case hd => rfl); (case hg => rfl); (case hr => first | (go_simp; done) | (go_simp; rfl)); intro gb104 hg w36 hbox hb; have n0_ := Aside0.mk (below_step (by repeat (first | (with_reducible first | exact HB.out | apply below_alloc | apply pw_below_drewN | apply below_drew1) | exact HB.out)) hb); have n1_ := Aside0.mk (hbox); have n2_ := Aside0.mk ((by rw [hg]; exact (below_size (by repeat (first | (with_reducible first | exact HB.out | apply below_alloc | apply pw_below_drewN | apply below_drew1) | exact HB.out))) : w.heap.size ≤ gb104)); have n3_ := Aside0.mk ((by rw [hg]; exact (below_size (by repeat (first | (with_reducible first | exact HB.out | apply below_alloc | apply pw_below_drewN | apply below_drew1) | exact HB.out))) : w.heap.size ≤ gb104)); clear HB; have HB := n0_; have BK104 := n1_; have GW104 := n2_; have GE104 := n3_; clear n0_ n1_ n2_ n3_; clear hb hbox hg; have hcz37_0 : w36.cell? ⟨gb104, 0, none⟩ = some (.string (⟨#[]⟩ : ByteArray)) := (blk_cell BK104.out 0).trans rfl; have hcz37_1 : w36.cell? ⟨gb104, 1, none⟩ = some (.string (⟨#[]⟩ : ByteArray)) := (blk_cell BK104.out 1).trans rfl; have hfz37_0 := blk_frozen BK104.out 0; have hfz37_1 := blk_frozen BK104.out 1) | ((with_reducible refine gate_callee (f := 64) rfl ?_); refine goesL_ (some 19) rfl rfl Tryd.func64 (by kernel_rfl) rfl #[.string ((rd_T57 l0 x10_1).f0), .string (⟨#[32, 43, 45]⟩ : ByteArray)] rfl (by (try simp only [List.map_toArray, List.map_cons, List.map_nil]); first | done | rfl | (simp only [List.length_drop, List.length_take]; rfl)) ?_; (with_reducible refine (strings_Trim.calls ((rd_T57 l0 x10_1).f0) (⟨#[32, 43, 45]⟩ : ByteArray) t105 _ A5.out).mono ?_); rintro e w38 ⟨rfl, hb⟩; refine ⟨_, rfl, ?_⟩; have n0_ := Aside0.mk (blk_below (g := gb104) (o := .cells #[.string ((rd_T57 l0 x10_1).f0), .string ((rd_T57 l0 x10_1).f1)] 57 (0, 0)) (by (with_reducible repeat (first | refine blk_drewN ?_ _ | refine blk_drew ?_ | refine blk_alloc ?_ _)); refine blk_put (cs := #[.string ((rd_T57 l0 x10_1).f0), .string (⟨#[]⟩ : ByteArray)]) ?_ 1 _ rfl; (with_reducible repeat (first | refine blk_drewN ?_ _ | refine blk_drew ?_ | refine blk_alloc ?_ _)); refine blk_put (cs := #[.string (⟨#[]⟩ : ByteArray), .string (⟨#[]⟩ : ByteArray)]) ?_ 0 _ rfl; (with_reducible repeat (first | refine blk_drewN ?_ _ | refine blk_drew ?_ | refine blk_alloc ?_ _)); exact BK104.out) hb); have n1_ := Aside0.mk (below_step (by repeat (first | (with_reducible first | exact HB.out | apply below_alloc | apply pw_below_drewN | apply below_drew1 | refine below_set ?_ GE104.out) | exact HB.out)) hb); clear BK104; clear HB; have BK104 := n0_; have HB := n1_; clear n0_ n1_; (try clear hb); (try clear hb2); (try clear hk); (try clear hi); have hcz39_0 : w38.cell? ⟨gb104, 0, none⟩ = some (.string ((rd_T57 l0 x10_1).f0)) := (blk_cell BK104.out 0).trans rfl; have hcz39_1 : w38.cell? ⟨gb104, 1, none⟩ = some (.string ((rd_T57 l0 x10_1).f1)) := (blk_cell BK104.out 1).trans rfl; have hfz39_0 := blk_frozen BK104.out 0; have hfz39_1 := blk_frozen BK104.out 1) | ((with_reducible refine gate_callee (f := 62) rfl ?_); refine goesL_ (some 23) rfl rfl Tryd.func62 (by kernel_rfl) rfl #[.string ((rd_T57 l0 x10_1).f0), .string (⟨#[43]⟩ : ByteArray)] rfl (by (try simp only [List.map_toArray, List.map_cons, List.map_nil]); first | done | rfl | (simp only [List.length_drop, List.length_take]; rfl)) ?_; (with_reducible refine (strings_Contains.calls ((rd_T57 l0 x10_1).f0) (⟨#[43]⟩ : ByteArray) true _ A6.out).mono ?_); rintro e w' ⟨rfl, ⟨nd, rfl⟩⟩; refine ⟨_, rfl, ?_⟩) | (go_at_call 62; (with_reducible refine (strings_Contains.calls ((rd_T57 l0 x10_1).f0) (⟨#[45]⟩ : ByteArray) false _ A8.out).mono ?_); rintro e w' ⟨rfl, ⟨nd, rfl⟩⟩; have p108 : 0 ≤ (0 : Int) := (by omega); have q108 : 0 < (l0.length : Int) := of_decide_eq_true (by first | (with_reducible assumption) | assumption); obtain ⟨ad108, e108, hx108_0, hx108_1⟩ := at_T57 HR0.out 0 p108 q108; obtain rfl : ad103 = ad108 := (by injection e108); have qi108 : (0 < l0.length) = True := eq_true (by omega); (try rw [show ((0 : Int)).toNat = 0 from rfl] at hx108_0); (try rw [show 0 * 2 = 0 from rfl] at hx108_0); (try rw [Addr.add_zero'] at hx108_0); (try rw [show ((0 : Int)).toNat = 0 from rfl] at hx108_1); (try rw [show 0 * 2 = 0 from rfl] at hx108_1); (try rw [Addr.add_zero'] at hx108_1); replace hx108_0 := (HB.out.cell (World.block_lt_of_cell? w _ hx108_0)).trans hx108_0; replace hx108_1 := (HB.out.cell (World.block_lt_of_cell? w _ hx108_1)).trans hx108_1; replace p108 := eq_true p108; replace q108 := eq_true q108) | ((with_reducible refine gate_dst (N := 54) rfl ?_); (try (refine gate_guard (by rfl) ?_; dsimp only)); refine Kd.R_lit Kd.string _ 9 ?hg (N := 54) ?hd (xs := ([(rd_T57 l0 x10_1).f1] : List ByteArray)) (inner := [.string ((rd_T57 l0 x10_1).f1)]) (ok := fun _ => True) (okp := fun _ => True) ?hr ?hp (fun _ hk => hk) trivial (Below.refl _ _) (Nat.le_refl _) (by simp) ?_; (case hd => rfl); (case hg => rfl); (case hr => first | (go_simp; done) | (go_simp; rfl)); (case hp => exact (Reps.one (show Kd.M Kd.string _ _ _ ((rd_T57 l0 x10_1).f1) [.string ((rd_T57 l0 x10_1).f1)] from rfl) (Reps.none _ _))); intro v110 w40 ho41 hb hg_ hnew_; clear hg_ hnew_; (first | rw [← Ny109.out] at ho41 | (simp only [Int.reduceToNat] at ho41; rw [← Ny109.out] at ho41)); have n0_ := Aside0.mk (Kd.R_lower ho41 (below_size (by repeat (first | (with_reducible first | exact HB.out | apply below_alloc | apply pw_below_drewN | apply below_drew1 | refine below_set ?_ GE104.out) | exact HB.out)))); have n1_ := Aside0.mk (blk_below (g := gb104) (o := .cells #[.string ((rd_T57 l0 x10_1).f0), .string ((rd_T57 l0 x10_1).f1)] 57 (0, 0)) (by (with_reducible repeat (first | refine blk_drewN ?_ _ | refine blk_drew ?_ | refine blk_alloc ?_ _)); exact BK104.out) hb); have n2_ := Aside0.mk (below_step (by repeat (first | (with_reducible first | exact HB.out | apply below_alloc | apply pw_below_drewN | apply below_drew1 | refine below_set ?_ GE104.out) | exact HB.out)) hb); clear BK104; clear HB; have HO111 := n0_; have BK104 := n1_; have HB := n2_; clear n0_ n1_ n2_; clear hb ho41; obtain ⟨Ao42, co42, eo42⟩ := Kd.R_slice HO111.out; subst eo42) | (go_at_call 65; (with_reducible refine (lines_May.calls k1 _ _ y109 false _ ?side1 ?side2 A27.out).mono ?_); (case side1 => repeat (first | exact (Kd.R_reads' HO111.out).2.2 | (with_reducible refine Kd.C_alloc ?_ _) | (with_reducible refine Kd.C_drewN ?_ _) | (with_reducible refine Kd.C_drew ?_))); (case side2 => exact (Kd.R_reads' HO111.out).2.1); rintro e w' ⟨rfl, ⟨nd, rfl⟩⟩))
                            go_ret
                            exact ⟨by first | rfl | (simp [errW_none, errW_some] <;> rfl) | (simp [errW_none, errW_some]; done) | (simp [errW_none, errW_some]; cases ByteArray.toList _ <;> rfl) | (simp [*, errW_none, errW_some] <;> rfl), by repeat (first | (with_reducible first | exact HB.out | apply below_alloc | apply pw_below_drewN | apply below_drew1 | refine below_set ?_ GE104.out) | exact HB.out)⟩
                      · rw [if_neg c21] at H
                        have c21b0 : (t105.toList == ([] : List UInt8)) = false := beq_eq_false_iff_ne.mpr c21
                        have c21b1 : (t105.toList != ([] : List UInt8)) = true := bne_iff_ne.mpr c21
                        obtain rfl := Option.some.inj H
                        have p103 : 0 ≤ (x10_1 : Int) := of_decide_eq_true (by first | (with_reducible assumption) | assumption)
                        have q103 : x10_1 < (l0.length : Int) := of_decide_eq_true (by first | (with_reducible assumption) | assumption)
                        obtain ⟨ad103, e103, hx103_0, hx103_1⟩ := at_T57 HR0.out x10_1 p103 q103
                        cases e103
                        replace hx103_0 := (HB.out.cell (World.block_lt_of_cell? w _ hx103_0)).trans hx103_0
                        replace hx103_1 := (HB.out.cell (World.block_lt_of_cell? w _ hx103_1)).trans hx103_1
                        replace p103 := eq_true p103
                        replace q103 := eq_true q103
                        go_wp2_with (first | ((with_reducible refine gate_dst (N := 4) rfl ?_); (try (refine gate_guard (by rfl) ?_; dsimp only)); refine box_event ?hg (N := 4) ?hd (cs := #[.string (⟨#[]⟩ : ByteArray), .string (⟨#[]⟩ : ByteArray)]) (t := 57) ?hr ?_; (case hd => rfl); (case hg => rfl); (case hr => first | (go_simp; done) | (go_simp; rfl)); intro gb104 hg w43 hbox hb; have n0_ := Aside0.mk (below_step (by repeat (first | (with_reducible first | exact HB.out | apply below_alloc | apply pw_below_drewN | apply below_drew1) | exact HB.out)) hb); have n1_ := Aside0.mk (hbox); have n2_ := Aside0.mk ((by rw [hg]; exact (below_size (by repeat (first | (with_reducible first | exact HB.out | apply below_alloc | apply pw_below_drewN | apply below_drew1) | exact HB.out))) : w.heap.size ≤ gb104)); have n3_ := Aside0.mk ((by rw [hg]; exact (below_size (by repeat (first | (with_reducible first | exact HB.out | apply below_alloc | apply pw_below_drewN | apply below_drew1) | exact HB.out))) : w.heap.size ≤ gb104)); clear HB; have HB := n0_; have BK104 := n1_; have GW104 := n2_; have GE104 := n3_; clear n0_ n1_ n2_ n3_; clear hb hbox hg; have hcz44_0 : w43.cell? ⟨gb104, 0, none⟩ = some (.string (⟨#[]⟩ : ByteArray)) := (blk_cell BK104.out 0).trans rfl; have hcz44_1 : w43.cell? ⟨gb104, 1, none⟩ = some (.string (⟨#[]⟩ : ByteArray)) := (blk_cell BK104.out 1).trans rfl; have hfz44_0 := blk_frozen BK104.out 0; have hfz44_1 := blk_frozen BK104.out 1) | ((with_reducible refine gate_callee (f := 64) rfl ?_); refine goesL_ (some 19) rfl rfl Tryd.func64 (by kernel_rfl) rfl #[.string ((rd_T57 l0 x10_1).f0), .string (⟨#[32, 43, 45]⟩ : ByteArray)] rfl (by (try simp only [List.map_toArray, List.map_cons, List.map_nil]); first | done | rfl | (simp only [List.length_drop, List.length_take]; rfl)) ?_; (with_reducible refine (strings_Trim.calls ((rd_T57 l0 x10_1).f0) (⟨#[32, 43, 45]⟩ : ByteArray) t105 _ A5.out).mono ?_); rintro e w45 ⟨rfl, hb⟩; refine ⟨_, rfl, ?_⟩; have n0_ := Aside0.mk (blk_below (g := gb104) (o := .cells #[.string ((rd_T57 l0 x10_1).f0), .string ((rd_T57 l0 x10_1).f1)] 57 (0, 0)) (by (with_reducible repeat (first | refine blk_drewN ?_ _ | refine blk_drew ?_ | refine blk_alloc ?_ _)); refine blk_put (cs := #[.string ((rd_T57 l0 x10_1).f0), .string (⟨#[]⟩ : ByteArray)]) ?_ 1 _ rfl; (with_reducible repeat (first | refine blk_drewN ?_ _ | refine blk_drew ?_ | refine blk_alloc ?_ _)); refine blk_put (cs := #[.string (⟨#[]⟩ : ByteArray), .string (⟨#[]⟩ : ByteArray)]) ?_ 0 _ rfl; (with_reducible repeat (first | refine blk_drewN ?_ _ | refine blk_drew ?_ | refine blk_alloc ?_ _)); exact BK104.out) hb); have n1_ := Aside0.mk (below_step (by repeat (first | (with_reducible first | exact HB.out | apply below_alloc | apply pw_below_drewN | apply below_drew1 | refine below_set ?_ GE104.out) | exact HB.out)) hb); clear BK104; clear HB; have BK104 := n0_; have HB := n1_; clear n0_ n1_; (try clear hb); (try clear hb2); (try clear hk); (try clear hi); have hcz46_0 : w45.cell? ⟨gb104, 0, none⟩ = some (.string ((rd_T57 l0 x10_1).f0)) := (blk_cell BK104.out 0).trans rfl; have hcz46_1 : w45.cell? ⟨gb104, 1, none⟩ = some (.string ((rd_T57 l0 x10_1).f1)) := (blk_cell BK104.out 1).trans rfl; have hfz46_0 := blk_frozen BK104.out 0; have hfz46_1 := blk_frozen BK104.out 1) | ((with_reducible refine gate_callee (f := 62) rfl ?_); refine goesL_ (some 23) rfl rfl Tryd.func62 (by kernel_rfl) rfl #[.string ((rd_T57 l0 x10_1).f0), .string (⟨#[43]⟩ : ByteArray)] rfl (by (try simp only [List.map_toArray, List.map_cons, List.map_nil]); first | done | rfl | (simp only [List.length_drop, List.length_take]; rfl)) ?_; (with_reducible refine (strings_Contains.calls ((rd_T57 l0 x10_1).f0) (⟨#[43]⟩ : ByteArray) true _ A6.out).mono ?_); rintro e w' ⟨rfl, ⟨nd, rfl⟩⟩; refine ⟨_, rfl, ?_⟩) | (go_at_call 62; (with_reducible refine (strings_Contains.calls ((rd_T57 l0 x10_1).f0) (⟨#[45]⟩ : ByteArray) t107 _ A8.out).mono ?_); rintro e w' ⟨rfl, ⟨nd, rfl⟩⟩; have p108 : 0 ≤ (0 : Int) := (by omega); have q108 : 0 < (l0.length : Int) := of_decide_eq_true (by first | (with_reducible assumption) | assumption); obtain ⟨ad108, e108, hx108_0, hx108_1⟩ := at_T57 HR0.out 0 p108 q108; obtain rfl : ad103 = ad108 := (by injection e108); have qi108 : (0 < l0.length) = True := eq_true (by omega); (try rw [show ((0 : Int)).toNat = 0 from rfl] at hx108_0); (try rw [show 0 * 2 = 0 from rfl] at hx108_0); (try rw [Addr.add_zero'] at hx108_0); (try rw [show ((0 : Int)).toNat = 0 from rfl] at hx108_1); (try rw [show 0 * 2 = 0 from rfl] at hx108_1); (try rw [Addr.add_zero'] at hx108_1); replace hx108_0 := (HB.out.cell (World.block_lt_of_cell? w _ hx108_0)).trans hx108_0; replace hx108_1 := (HB.out.cell (World.block_lt_of_cell? w _ hx108_1)).trans hx108_1; replace p108 := eq_true p108; replace q108 := eq_true q108))
                        go_ret
                        exact ⟨by first | rfl | (simp [errW_none, errW_some] <;> rfl) | (simp [errW_none, errW_some]; done) | (simp [errW_none, errW_some]; cases ByteArray.toList _ <;> rfl) | (simp [*, errW_none, errW_some] <;> rfl), by repeat (first | (with_reducible first | exact HB.out | apply below_alloc | apply pw_below_drewN | apply below_drew1 | refine below_set ?_ GE104.out) | exact HB.out)⟩
                · rw [if_neg c10] at H
                  have c10b0 : ((((rd_T57 l0 x10_1).f0).size : Int) == (((rd_T57 l0 0).f0).size : Int)) = false := beq_eq_false_iff_ne.mpr c10
                  have c10b1 : ((((rd_T57 l0 x10_1).f0).size : Int) != (((rd_T57 l0 0).f0).size : Int)) = true := bne_iff_ne.mpr c10
                  have c10b2 : (((rd_T57 l0 x10_1).f0).size == ((rd_T57 l0 0).f0).size) = false := by first | simpa using c10 | (simp at c10 ⊢; omega)
                  obtain rfl := Option.some.inj H
                  have p103 : 0 ≤ (x10_1 : Int) := of_decide_eq_true (by first | (with_reducible assumption) | assumption)
                  have q103 : x10_1 < (l0.length : Int) := of_decide_eq_true (by first | (with_reducible assumption) | assumption)
                  obtain ⟨ad103, e103, hx103_0, hx103_1⟩ := at_T57 HR0.out x10_1 p103 q103
                  cases e103
                  replace hx103_0 := (HB.out.cell (World.block_lt_of_cell? w _ hx103_0)).trans hx103_0
                  replace hx103_1 := (HB.out.cell (World.block_lt_of_cell? w _ hx103_1)).trans hx103_1
                  replace p103 := eq_true p103
                  replace q103 := eq_true q103
                  go_wp2_with (first | ((with_reducible refine gate_dst (N := 4) rfl ?_); (try (refine gate_guard (by rfl) ?_; dsimp only)); refine box_event ?hg (N := 4) ?hd (cs := #[.string (⟨#[]⟩ : ByteArray), .string (⟨#[]⟩ : ByteArray)]) (t := 57) ?hr ?_; (case hd => rfl); (case hg => rfl); (case hr => first | (go_simp; done) | (go_simp; rfl)); intro gb104 hg w47 hbox hb; have n0_ := Aside0.mk (below_step (by repeat (first | (with_reducible first | exact HB.out | apply below_alloc | apply pw_below_drewN | apply below_drew1) | exact HB.out)) hb); have n1_ := Aside0.mk (hbox); have n2_ := Aside0.mk ((by rw [hg]; exact (below_size (by repeat (first | (with_reducible first | exact HB.out | apply below_alloc | apply pw_below_drewN | apply below_drew1) | exact HB.out))) : w.heap.size ≤ gb104)); have n3_ := Aside0.mk ((by rw [hg]; exact (below_size (by repeat (first | (with_reducible first | exact HB.out | apply below_alloc | apply pw_below_drewN | apply below_drew1) | exact HB.out))) : w.heap.size ≤ gb104)); clear HB; have HB := n0_; have BK104 := n1_; have GW104 := n2_; have GE104 := n3_; clear n0_ n1_ n2_ n3_; clear hb hbox hg; have hcz48_0 : w47.cell? ⟨gb104, 0, none⟩ = some (.string (⟨#[]⟩ : ByteArray)) := (blk_cell BK104.out 0).trans rfl; have hcz48_1 : w47.cell? ⟨gb104, 1, none⟩ = some (.string (⟨#[]⟩ : ByteArray)) := (blk_cell BK104.out 1).trans rfl; have hfz48_0 := blk_frozen BK104.out 0; have hfz48_1 := blk_frozen BK104.out 1) | ((with_reducible refine gate_callee (f := 64) rfl ?_); refine goesL_ (some 19) rfl rfl Tryd.func64 (by kernel_rfl) rfl #[.string ((rd_T57 l0 x10_1).f0), .string (⟨#[32, 43, 45]⟩ : ByteArray)] rfl (by (try simp only [List.map_toArray, List.map_cons, List.map_nil]); first | done | rfl | (simp only [List.length_drop, List.length_take]; rfl)) ?_; (with_reducible refine (strings_Trim.calls ((rd_T57 l0 x10_1).f0) (⟨#[32, 43, 45]⟩ : ByteArray) t105 _ A5.out).mono ?_); rintro e w49 ⟨rfl, hb⟩; refine ⟨_, rfl, ?_⟩; have n0_ := Aside0.mk (blk_below (g := gb104) (o := .cells #[.string ((rd_T57 l0 x10_1).f0), .string ((rd_T57 l0 x10_1).f1)] 57 (0, 0)) (by (with_reducible repeat (first | refine blk_drewN ?_ _ | refine blk_drew ?_ | refine blk_alloc ?_ _)); refine blk_put (cs := #[.string ((rd_T57 l0 x10_1).f0), .string (⟨#[]⟩ : ByteArray)]) ?_ 1 _ rfl; (with_reducible repeat (first | refine blk_drewN ?_ _ | refine blk_drew ?_ | refine blk_alloc ?_ _)); refine blk_put (cs := #[.string (⟨#[]⟩ : ByteArray), .string (⟨#[]⟩ : ByteArray)]) ?_ 0 _ rfl; (with_reducible repeat (first | refine blk_drewN ?_ _ | refine blk_drew ?_ | refine blk_alloc ?_ _)); exact BK104.out) hb); have n1_ := Aside0.mk (below_step (by repeat (first | (with_reducible first | exact HB.out | apply below_alloc | apply pw_below_drewN | apply below_drew1 | refine below_set ?_ GE104.out) | exact HB.out)) hb); clear BK104; clear HB; have BK104 := n0_; have HB := n1_; clear n0_ n1_; (try clear hb); (try clear hb2); (try clear hk); (try clear hi); have hcz50_0 : w49.cell? ⟨gb104, 0, none⟩ = some (.string ((rd_T57 l0 x10_1).f0)) := (blk_cell BK104.out 0).trans rfl; have hcz50_1 : w49.cell? ⟨gb104, 1, none⟩ = some (.string ((rd_T57 l0 x10_1).f1)) := (blk_cell BK104.out 1).trans rfl; have hfz50_0 := blk_frozen BK104.out 0; have hfz50_1 := blk_frozen BK104.out 1) | ((with_reducible refine gate_callee (f := 62) rfl ?_); refine goesL_ (some 23) rfl rfl Tryd.func62 (by kernel_rfl) rfl #[.string ((rd_T57 l0 x10_1).f0), .string (⟨#[43]⟩ : ByteArray)] rfl (by (try simp only [List.map_toArray, List.map_cons, List.map_nil]); first | done | rfl | (simp only [List.length_drop, List.length_take]; rfl)) ?_; (with_reducible refine (strings_Contains.calls ((rd_T57 l0 x10_1).f0) (⟨#[43]⟩ : ByteArray) true _ A6.out).mono ?_); rintro e w' ⟨rfl, ⟨nd, rfl⟩⟩; refine ⟨_, rfl, ?_⟩) | (go_at_call 62; (with_reducible refine (strings_Contains.calls ((rd_T57 l0 x10_1).f0) (⟨#[45]⟩ : ByteArray) t107 _ A8.out).mono ?_); rintro e w' ⟨rfl, ⟨nd, rfl⟩⟩; have p108 : 0 ≤ (0 : Int) := (by omega); have q108 : 0 < (l0.length : Int) := of_decide_eq_true (by first | (with_reducible assumption) | assumption); obtain ⟨ad108, e108, hx108_0, hx108_1⟩ := at_T57 HR0.out 0 p108 q108; obtain rfl : ad103 = ad108 := (by injection e108); have qi108 : (0 < l0.length) = True := eq_true (by omega); (try rw [show ((0 : Int)).toNat = 0 from rfl] at hx108_0); (try rw [show 0 * 2 = 0 from rfl] at hx108_0); (try rw [Addr.add_zero'] at hx108_0); (try rw [show ((0 : Int)).toNat = 0 from rfl] at hx108_1); (try rw [show 0 * 2 = 0 from rfl] at hx108_1); (try rw [Addr.add_zero'] at hx108_1); replace hx108_0 := (HB.out.cell (World.block_lt_of_cell? w _ hx108_0)).trans hx108_0; replace hx108_1 := (HB.out.cell (World.block_lt_of_cell? w _ hx108_1)).trans hx108_1; replace p108 := eq_true p108; replace q108 := eq_true q108))
                  go_ret
                  exact ⟨by first | rfl | (simp [errW_none, errW_some] <;> rfl) | (simp [errW_none, errW_some]; done) | (simp [errW_none, errW_some]; cases ByteArray.toList _ <;> rfl) | (simp [*, errW_none, errW_some] <;> rfl), by repeat (first | (with_reducible first | exact HB.out | apply below_alloc | apply pw_below_drewN | apply below_drew1 | refine below_set ?_ GE104.out) | exact HB.out)⟩
              · rw [if_neg c9] at H
                exact absurd H (by simp)
            · replace c7 := Bool.eq_false_iff.mpr c7
              subst c7
              have H1 : (if 0 < (l0.length : Int) then (if (((rd_T57 l0 x10_1).f0).size : Int) = (((rd_T57 l0 0).f0).size : Int) then (if (((rd_T57 l0 x10_1).f0).size : Int) < 1 then (some false) else (if (((rd_T57 l0 x10_1).f0).size : Int) > 16 then (some false) else (if (t105.toList = ([] : List UInt8)) then ((lines_May.f k1 (([(rd_T57 l0 x10_1).f1] : List ByteArray))).bind fun t117 => (if t117 = true then (hunk_May.l0 k1 l0 l0 (l0.length : Int) (wrap64 (x10_1 + 1))) else (some false))) else (some false)))) else (some false)) else (none)) = some r := by rw [if_neg (show ¬ (false = true) by decide)] at H; exact H
              clear H
              have H := H1
              clear H1
              by_cases c51 : 0 < (l0.length : Int)
              · rw [if_pos c51] at H
                have c51b0 : decide (0 < (l0.length : Int)) = true := decide_eq_true c51
                have c51b1 : decide (0 < l0.length) = true := decide_eq_true (by omega)
                clear c51
                by_cases c52 : (((rd_T57 l0 x10_1).f0).size : Int) = (((rd_T57 l0 0).f0).size : Int)
                · rw [if_pos c52] at H
                  have c52b0 : ((((rd_T57 l0 x10_1).f0).size : Int) == (((rd_T57 l0 0).f0).size : Int)) = true := beq_iff_eq.mpr c52
                  have c52b1 : ((((rd_T57 l0 x10_1).f0).size : Int) != (((rd_T57 l0 0).f0).size : Int)) = false := bne_eq_false_iff_eq.mpr c52
                  have c52b2 : (((rd_T57 l0 x10_1).f0).size == ((rd_T57 l0 0).f0).size) = true := by first | simpa using c52 | (simp at c52 ⊢; omega)
                  clear c52
                  by_cases c53 : (((rd_T57 l0 x10_1).f0).size : Int) < 1
                  · rw [if_pos c53] at H
                    have c53b0 : decide ((((rd_T57 l0 x10_1).f0).size : Int) < 1) = true := decide_eq_true c53
                    have c53b1 : decide (((rd_T57 l0 x10_1).f0).size < 1) = true := decide_eq_true (by omega)
                    clear c53
                    obtain rfl := Option.some.inj H
                    have p103 : 0 ≤ (x10_1 : Int) := of_decide_eq_true (by first | (with_reducible assumption) | assumption)
                    have q103 : x10_1 < (l0.length : Int) := of_decide_eq_true (by first | (with_reducible assumption) | assumption)
                    obtain ⟨ad103, e103, hx103_0, hx103_1⟩ := at_T57 HR0.out x10_1 p103 q103
                    cases e103
                    replace hx103_0 := (HB.out.cell (World.block_lt_of_cell? w _ hx103_0)).trans hx103_0
                    replace hx103_1 := (HB.out.cell (World.block_lt_of_cell? w _ hx103_1)).trans hx103_1
                    replace p103 := eq_true p103
                    replace q103 := eq_true q103
                    go_wp2_with (first | ((with_reducible refine gate_dst (N := 4) rfl ?_); (try (refine gate_guard (by rfl) ?_; dsimp only)); refine box_event ?hg (N := 4) ?hd (cs := #[.string (⟨#[]⟩ : ByteArray), .string (⟨#[]⟩ : ByteArray)]) (t := 57) ?hr ?_; (case hd => rfl); (case hg => rfl); (case hr => first | (go_simp; done) | (go_simp; rfl)); intro gb104 hg w54 hbox hb; have n0_ := Aside0.mk (below_step (by repeat (first | (with_reducible first | exact HB.out | apply below_alloc | apply pw_below_drewN | apply below_drew1) | exact HB.out)) hb); have n1_ := Aside0.mk (hbox); have n2_ := Aside0.mk ((by rw [hg]; exact (below_size (by repeat (first | (with_reducible first | exact HB.out | apply below_alloc | apply pw_below_drewN | apply below_drew1) | exact HB.out))) : w.heap.size ≤ gb104)); have n3_ := Aside0.mk ((by rw [hg]; exact (below_size (by repeat (first | (with_reducible first | exact HB.out | apply below_alloc | apply pw_below_drewN | apply below_drew1) | exact HB.out))) : w.heap.size ≤ gb104)); clear HB; have HB := n0_; have BK104 := n1_; have GW104 := n2_; have GE104 := n3_; clear n0_ n1_ n2_ n3_; clear hb hbox hg; have hcz55_0 : w54.cell? ⟨gb104, 0, none⟩ = some (.string (⟨#[]⟩ : ByteArray)) := (blk_cell BK104.out 0).trans rfl; have hcz55_1 : w54.cell? ⟨gb104, 1, none⟩ = some (.string (⟨#[]⟩ : ByteArray)) := (blk_cell BK104.out 1).trans rfl; have hfz55_0 := blk_frozen BK104.out 0; have hfz55_1 := blk_frozen BK104.out 1) | ((with_reducible refine gate_callee (f := 64) rfl ?_); refine goesL_ (some 19) rfl rfl Tryd.func64 (by kernel_rfl) rfl #[.string ((rd_T57 l0 x10_1).f0), .string (⟨#[32, 43, 45]⟩ : ByteArray)] rfl (by (try simp only [List.map_toArray, List.map_cons, List.map_nil]); first | done | rfl | (simp only [List.length_drop, List.length_take]; rfl)) ?_; (with_reducible refine (strings_Trim.calls ((rd_T57 l0 x10_1).f0) (⟨#[32, 43, 45]⟩ : ByteArray) t105 _ A5.out).mono ?_); rintro e w56 ⟨rfl, hb⟩; refine ⟨_, rfl, ?_⟩; have n0_ := Aside0.mk (blk_below (g := gb104) (o := .cells #[.string ((rd_T57 l0 x10_1).f0), .string ((rd_T57 l0 x10_1).f1)] 57 (0, 0)) (by (with_reducible repeat (first | refine blk_drewN ?_ _ | refine blk_drew ?_ | refine blk_alloc ?_ _)); refine blk_put (cs := #[.string ((rd_T57 l0 x10_1).f0), .string (⟨#[]⟩ : ByteArray)]) ?_ 1 _ rfl; (with_reducible repeat (first | refine blk_drewN ?_ _ | refine blk_drew ?_ | refine blk_alloc ?_ _)); refine blk_put (cs := #[.string (⟨#[]⟩ : ByteArray), .string (⟨#[]⟩ : ByteArray)]) ?_ 0 _ rfl; (with_reducible repeat (first | refine blk_drewN ?_ _ | refine blk_drew ?_ | refine blk_alloc ?_ _)); exact BK104.out) hb); have n1_ := Aside0.mk (below_step (by repeat (first | (with_reducible first | exact HB.out | apply below_alloc | apply pw_below_drewN | apply below_drew1 | refine below_set ?_ GE104.out) | exact HB.out)) hb); clear BK104; clear HB; have BK104 := n0_; have HB := n1_; clear n0_ n1_; (try clear hb); (try clear hb2); (try clear hk); (try clear hi); have hcz57_0 : w56.cell? ⟨gb104, 0, none⟩ = some (.string ((rd_T57 l0 x10_1).f0)) := (blk_cell BK104.out 0).trans rfl; have hcz57_1 : w56.cell? ⟨gb104, 1, none⟩ = some (.string ((rd_T57 l0 x10_1).f1)) := (blk_cell BK104.out 1).trans rfl; have hfz57_0 := blk_frozen BK104.out 0; have hfz57_1 := blk_frozen BK104.out 1) | ((with_reducible refine gate_callee (f := 62) rfl ?_); refine goesL_ (some 23) rfl rfl Tryd.func62 (by kernel_rfl) rfl #[.string ((rd_T57 l0 x10_1).f0), .string (⟨#[43]⟩ : ByteArray)] rfl (by (try simp only [List.map_toArray, List.map_cons, List.map_nil]); first | done | rfl | (simp only [List.length_drop, List.length_take]; rfl)) ?_; (with_reducible refine (strings_Contains.calls ((rd_T57 l0 x10_1).f0) (⟨#[43]⟩ : ByteArray) false _ A6.out).mono ?_); rintro e w' ⟨rfl, ⟨nd, rfl⟩⟩; refine ⟨_, rfl, ?_⟩; have p113 : 0 ≤ (0 : Int) := (by omega); have q113 : 0 < (l0.length : Int) := of_decide_eq_true (by first | (with_reducible assumption) | assumption); obtain ⟨ad113, e113, hx113_0, hx113_1⟩ := at_T57 HR0.out 0 p113 q113; obtain rfl : ad103 = ad113 := (by injection e113); have qi113 : (0 < l0.length) = True := eq_true (by omega); (try rw [show ((0 : Int)).toNat = 0 from rfl] at hx113_0); (try rw [show 0 * 2 = 0 from rfl] at hx113_0); (try rw [Addr.add_zero'] at hx113_0); (try rw [show ((0 : Int)).toNat = 0 from rfl] at hx113_1); (try rw [show 0 * 2 = 0 from rfl] at hx113_1); (try rw [Addr.add_zero'] at hx113_1); replace hx113_0 := (HB.out.cell (World.block_lt_of_cell? w _ hx113_0)).trans hx113_0; replace hx113_1 := (HB.out.cell (World.block_lt_of_cell? w _ hx113_1)).trans hx113_1; replace p113 := eq_true p113; replace q113 := eq_true q113))
                    go_ret
                    exact ⟨by first | rfl | (simp [errW_none, errW_some] <;> rfl) | (simp [errW_none, errW_some]; done) | (simp [errW_none, errW_some]; cases ByteArray.toList _ <;> rfl) | (simp [*, errW_none, errW_some] <;> rfl), by repeat (first | (with_reducible first | exact HB.out | apply below_alloc | apply pw_below_drewN | apply below_drew1 | refine below_set ?_ GE104.out) | exact HB.out)⟩
                  · rw [if_neg c53] at H
                    have c53b0 : decide ((((rd_T57 l0 x10_1).f0).size : Int) < 1) = false := decide_eq_false c53
                    have c53b1 : decide (((rd_T57 l0 x10_1).f0).size < 1) = false := decide_eq_false (by omega)
                    clear c53
                    by_cases c58 : (((rd_T57 l0 x10_1).f0).size : Int) > 16
                    · rw [if_pos c58] at H
                      have c58b0 : decide (16 < (((rd_T57 l0 x10_1).f0).size : Int)) = true := decide_eq_true c58
                      have c58b1 : decide (16 < ((rd_T57 l0 x10_1).f0).size) = true := decide_eq_true (by omega)
                      clear c58
                      obtain rfl := Option.some.inj H
                      have p103 : 0 ≤ (x10_1 : Int) := of_decide_eq_true (by first | (with_reducible assumption) | assumption)
                      have q103 : x10_1 < (l0.length : Int) := of_decide_eq_true (by first | (with_reducible assumption) | assumption)
                      obtain ⟨ad103, e103, hx103_0, hx103_1⟩ := at_T57 HR0.out x10_1 p103 q103
                      cases e103
                      replace hx103_0 := (HB.out.cell (World.block_lt_of_cell? w _ hx103_0)).trans hx103_0
                      replace hx103_1 := (HB.out.cell (World.block_lt_of_cell? w _ hx103_1)).trans hx103_1
                      replace p103 := eq_true p103
                      replace q103 := eq_true q103
                      go_wp2_with (first | ((with_reducible refine gate_dst (N := 4) rfl ?_); (try (refine gate_guard (by rfl) ?_; dsimp only)); refine box_event ?hg (N := 4) ?hd (cs := #[.string (⟨#[]⟩ : ByteArray), .string (⟨#[]⟩ : ByteArray)]) (t := 57) ?hr ?_; (case hd => rfl); (case hg => rfl); (case hr => first | (go_simp; done) | (go_simp; rfl)); intro gb104 hg w59 hbox hb; have n0_ := Aside0.mk (below_step (by repeat (first | (with_reducible first | exact HB.out | apply below_alloc | apply pw_below_drewN | apply below_drew1) | exact HB.out)) hb); have n1_ := Aside0.mk (hbox); have n2_ := Aside0.mk ((by rw [hg]; exact (below_size (by repeat (first | (with_reducible first | exact HB.out | apply below_alloc | apply pw_below_drewN | apply below_drew1) | exact HB.out))) : w.heap.size ≤ gb104)); have n3_ := Aside0.mk ((by rw [hg]; exact (below_size (by repeat (first | (with_reducible first | exact HB.out | apply below_alloc | apply pw_below_drewN | apply below_drew1) | exact HB.out))) : w.heap.size ≤ gb104)); clear HB; have HB := n0_; have BK104 := n1_; have GW104 := n2_; have GE104 := n3_; clear n0_ n1_ n2_ n3_; clear hb hbox hg; have hcz60_0 : w59.cell? ⟨gb104, 0, none⟩ = some (.string (⟨#[]⟩ : ByteArray)) := (blk_cell BK104.out 0).trans rfl; have hcz60_1 : w59.cell? ⟨gb104, 1, none⟩ = some (.string (⟨#[]⟩ : ByteArray)) := (blk_cell BK104.out 1).trans rfl; have hfz60_0 := blk_frozen BK104.out 0; have hfz60_1 := blk_frozen BK104.out 1) | ((with_reducible refine gate_callee (f := 64) rfl ?_); refine goesL_ (some 19) rfl rfl Tryd.func64 (by kernel_rfl) rfl #[.string ((rd_T57 l0 x10_1).f0), .string (⟨#[32, 43, 45]⟩ : ByteArray)] rfl (by (try simp only [List.map_toArray, List.map_cons, List.map_nil]); first | done | rfl | (simp only [List.length_drop, List.length_take]; rfl)) ?_; (with_reducible refine (strings_Trim.calls ((rd_T57 l0 x10_1).f0) (⟨#[32, 43, 45]⟩ : ByteArray) t105 _ A5.out).mono ?_); rintro e w61 ⟨rfl, hb⟩; refine ⟨_, rfl, ?_⟩; have n0_ := Aside0.mk (blk_below (g := gb104) (o := .cells #[.string ((rd_T57 l0 x10_1).f0), .string ((rd_T57 l0 x10_1).f1)] 57 (0, 0)) (by (with_reducible repeat (first | refine blk_drewN ?_ _ | refine blk_drew ?_ | refine blk_alloc ?_ _)); refine blk_put (cs := #[.string ((rd_T57 l0 x10_1).f0), .string (⟨#[]⟩ : ByteArray)]) ?_ 1 _ rfl; (with_reducible repeat (first | refine blk_drewN ?_ _ | refine blk_drew ?_ | refine blk_alloc ?_ _)); refine blk_put (cs := #[.string (⟨#[]⟩ : ByteArray), .string (⟨#[]⟩ : ByteArray)]) ?_ 0 _ rfl; (with_reducible repeat (first | refine blk_drewN ?_ _ | refine blk_drew ?_ | refine blk_alloc ?_ _)); exact BK104.out) hb); have n1_ := Aside0.mk (below_step (by repeat (first | (with_reducible first | exact HB.out | apply below_alloc | apply pw_below_drewN | apply below_drew1 | refine below_set ?_ GE104.out) | exact HB.out)) hb); clear BK104; clear HB; have BK104 := n0_; have HB := n1_; clear n0_ n1_; (try clear hb); (try clear hb2); (try clear hk); (try clear hi); have hcz62_0 : w61.cell? ⟨gb104, 0, none⟩ = some (.string ((rd_T57 l0 x10_1).f0)) := (blk_cell BK104.out 0).trans rfl; have hcz62_1 : w61.cell? ⟨gb104, 1, none⟩ = some (.string ((rd_T57 l0 x10_1).f1)) := (blk_cell BK104.out 1).trans rfl; have hfz62_0 := blk_frozen BK104.out 0; have hfz62_1 := blk_frozen BK104.out 1) | ((with_reducible refine gate_callee (f := 62) rfl ?_); refine goesL_ (some 23) rfl rfl Tryd.func62 (by kernel_rfl) rfl #[.string ((rd_T57 l0 x10_1).f0), .string (⟨#[43]⟩ : ByteArray)] rfl (by (try simp only [List.map_toArray, List.map_cons, List.map_nil]); first | done | rfl | (simp only [List.length_drop, List.length_take]; rfl)) ?_; (with_reducible refine (strings_Contains.calls ((rd_T57 l0 x10_1).f0) (⟨#[43]⟩ : ByteArray) false _ A6.out).mono ?_); rintro e w' ⟨rfl, ⟨nd, rfl⟩⟩; refine ⟨_, rfl, ?_⟩; have p113 : 0 ≤ (0 : Int) := (by omega); have q113 : 0 < (l0.length : Int) := of_decide_eq_true (by first | (with_reducible assumption) | assumption); obtain ⟨ad113, e113, hx113_0, hx113_1⟩ := at_T57 HR0.out 0 p113 q113; obtain rfl : ad103 = ad113 := (by injection e113); have qi113 : (0 < l0.length) = True := eq_true (by omega); (try rw [show ((0 : Int)).toNat = 0 from rfl] at hx113_0); (try rw [show 0 * 2 = 0 from rfl] at hx113_0); (try rw [Addr.add_zero'] at hx113_0); (try rw [show ((0 : Int)).toNat = 0 from rfl] at hx113_1); (try rw [show 0 * 2 = 0 from rfl] at hx113_1); (try rw [Addr.add_zero'] at hx113_1); replace hx113_0 := (HB.out.cell (World.block_lt_of_cell? w _ hx113_0)).trans hx113_0; replace hx113_1 := (HB.out.cell (World.block_lt_of_cell? w _ hx113_1)).trans hx113_1; replace p113 := eq_true p113; replace q113 := eq_true q113))
                      go_ret
                      exact ⟨by first | rfl | (simp [errW_none, errW_some] <;> rfl) | (simp [errW_none, errW_some]; done) | (simp [errW_none, errW_some]; cases ByteArray.toList _ <;> rfl) | (simp [*, errW_none, errW_some] <;> rfl), by repeat (first | (with_reducible first | exact HB.out | apply below_alloc | apply pw_below_drewN | apply below_drew1 | refine below_set ?_ GE104.out) | exact HB.out)⟩
                    · rw [if_neg c58] at H
                      have c58b0 : decide (16 < (((rd_T57 l0 x10_1).f0).size : Int)) = false := decide_eq_false c58
                      have c58b1 : decide (16 < ((rd_T57 l0 x10_1).f0).size) = false := decide_eq_false (by omega)
                      clear c58
                      by_cases c63 : (t105.toList = ([] : List UInt8))
                      · rw [if_pos c63] at H
                        have c63b0 : (t105.toList == ([] : List UInt8)) = true := beq_iff_eq.mpr c63
                        have c63b1 : (t105.toList != ([] : List UInt8)) = false := bne_eq_false_iff_eq.mpr c63
                        clear c63
                        obtain ⟨y114, hy114⟩ : ∃ y_ : List ByteArray, y_ = (([(rd_T57 l0 x10_1).f1] : List ByteArray)) := ⟨_, rfl⟩
                        replace H : ((lines_May.f k1 y114).bind fun t117 => (if t117 = true then (hunk_May.l0 k1 l0 l0 (l0.length : Int) (wrap64 (x10_1 + 1))) else (some false))) = some r := by first | (rw [hy114]; with_reducible exact H) | (have H2_ := (Option.bind_some _ _).symm.trans H; rw [hy114]; with_reducible exact H2_) | (have H2_ := (Option.bind_some _ _).symm.trans H; with_reducible exact H2_) | with_reducible exact H | (rw [hy114]; exact H) | exact H
                        have Ny114 := Aside0.mk hy114
                        clear hy114
                        replace H := Option.bind_eq_some_iff.mp H
                        obtain ⟨t117, A640, H⟩ := H
                        replace H : (if t117 = true then (hunk_May.l0 k1 l0 l0 (l0.length : Int) (wrap64 (x10_1 + 1))) else (some false)) = some r := H
                        have A64 := Aside0.mk A640
                        clear A640
                        by_cases c65 : t117 = true
                        · subst c65
                          have H1 : (hunk_May.l0 k1 l0 l0 (l0.length : Int) (wrap64 (x10_1 + 1))) = some r := by rw [if_pos rfl] at H; exact H
                          clear H
                          have H := H1
                          clear H1
                          have H' := Aside0.mk H
                          clear H
                          have p103 : 0 ≤ (x10_1 : Int) := of_decide_eq_true (by first | (with_reducible assumption) | assumption)
                          have q103 : x10_1 < (l0.length : Int) := of_decide_eq_true (by first | (with_reducible assumption) | assumption)
                          obtain ⟨ad103, e103, hx103_0, hx103_1⟩ := at_T57 HR0.out x10_1 p103 q103
                          cases e103
                          replace hx103_0 := (HB.out.cell (World.block_lt_of_cell? w _ hx103_0)).trans hx103_0
                          replace hx103_1 := (HB.out.cell (World.block_lt_of_cell? w _ hx103_1)).trans hx103_1
                          replace p103 := eq_true p103
                          replace q103 := eq_true q103
                          go_wp2_with (first | ((with_reducible refine gate_dst (N := 4) rfl ?_); (try (refine gate_guard (by rfl) ?_; dsimp only)); refine box_event ?hg (N := 4) ?hd (cs := #[.string (⟨#[]⟩ : ByteArray), .string (⟨#[]⟩ : ByteArray)]) (t := 57) ?hr ?_; (case hd => rfl); (case hg => rfl); (case hr => first | (go_simp; done) | (go_simp; rfl)); intro gb104 hg w66 hbox hb; have n0_ := Aside0.mk (below_step (by repeat (first | (with_reducible first | exact HB.out | apply below_alloc | apply pw_below_drewN | apply below_drew1) | exact HB.out)) hb); have n1_ := Aside0.mk (hbox); have n2_ := Aside0.mk ((by rw [hg]; exact (below_size (by repeat (first | (with_reducible first | exact HB.out | apply below_alloc | apply pw_below_drewN | apply below_drew1) | exact HB.out))) : w.heap.size ≤ gb104)); have n3_ := Aside0.mk ((by rw [hg]; exact (below_size (by repeat (first | (with_reducible first | exact HB.out | apply below_alloc | apply pw_below_drewN | apply below_drew1) | exact HB.out))) : w.heap.size ≤ gb104)); clear HB; have HB := n0_; have BK104 := n1_; have GW104 := n2_; have GE104 := n3_; clear n0_ n1_ n2_ n3_; clear hb hbox hg; have hcz67_0 : w66.cell? ⟨gb104, 0, none⟩ = some (.string (⟨#[]⟩ : ByteArray)) := (blk_cell BK104.out 0).trans rfl; have hcz67_1 : w66.cell? ⟨gb104, 1, none⟩ = some (.string (⟨#[]⟩ : ByteArray)) := (blk_cell BK104.out 1).trans rfl; have hfz67_0 := blk_frozen BK104.out 0; have hfz67_1 := blk_frozen BK104.out 1) | ((with_reducible refine gate_callee (f := 64) rfl ?_); refine goesL_ (some 19) rfl rfl Tryd.func64 (by kernel_rfl) rfl #[.string ((rd_T57 l0 x10_1).f0), .string (⟨#[32, 43, 45]⟩ : ByteArray)] rfl (by (try simp only [List.map_toArray, List.map_cons, List.map_nil]); first | done | rfl | (simp only [List.length_drop, List.length_take]; rfl)) ?_; (with_reducible refine (strings_Trim.calls ((rd_T57 l0 x10_1).f0) (⟨#[32, 43, 45]⟩ : ByteArray) t105 _ A5.out).mono ?_); rintro e w68 ⟨rfl, hb⟩; refine ⟨_, rfl, ?_⟩; have n0_ := Aside0.mk (blk_below (g := gb104) (o := .cells #[.string ((rd_T57 l0 x10_1).f0), .string ((rd_T57 l0 x10_1).f1)] 57 (0, 0)) (by (with_reducible repeat (first | refine blk_drewN ?_ _ | refine blk_drew ?_ | refine blk_alloc ?_ _)); refine blk_put (cs := #[.string ((rd_T57 l0 x10_1).f0), .string (⟨#[]⟩ : ByteArray)]) ?_ 1 _ rfl; (with_reducible repeat (first | refine blk_drewN ?_ _ | refine blk_drew ?_ | refine blk_alloc ?_ _)); refine blk_put (cs := #[.string (⟨#[]⟩ : ByteArray), .string (⟨#[]⟩ : ByteArray)]) ?_ 0 _ rfl; (with_reducible repeat (first | refine blk_drewN ?_ _ | refine blk_drew ?_ | refine blk_alloc ?_ _)); exact BK104.out) hb); have n1_ := Aside0.mk (below_step (by repeat (first | (with_reducible first | exact HB.out | apply below_alloc | apply pw_below_drewN | apply below_drew1 | refine below_set ?_ GE104.out) | exact HB.out)) hb); clear BK104; clear HB; have BK104 := n0_; have HB := n1_; clear n0_ n1_; (try clear hb); (try clear hb2); (try clear hk); (try clear hi); have hcz69_0 : w68.cell? ⟨gb104, 0, none⟩ = some (.string ((rd_T57 l0 x10_1).f0)) := (blk_cell BK104.out 0).trans rfl; have hcz69_1 : w68.cell? ⟨gb104, 1, none⟩ = some (.string ((rd_T57 l0 x10_1).f1)) := (blk_cell BK104.out 1).trans rfl; have hfz69_0 := blk_frozen BK104.out 0; have hfz69_1 := blk_frozen BK104.out 1) | ((with_reducible refine gate_callee (f := 62) rfl ?_); refine goesL_ (some 23) rfl rfl Tryd.func62 (by kernel_rfl) rfl #[.string ((rd_T57 l0 x10_1).f0), .string (⟨#[43]⟩ : ByteArray)] rfl (by (try simp only [List.map_toArray, List.map_cons, List.map_nil]); first | done | rfl | (simp only [List.length_drop, List.length_take]; rfl)) ?_; (with_reducible refine (strings_Contains.calls ((rd_T57 l0 x10_1).f0) (⟨#[43]⟩ : ByteArray) false _ A6.out).mono ?_); rintro e w' ⟨rfl, ⟨nd, rfl⟩⟩; refine ⟨_, rfl, ?_⟩; have p113 : 0 ≤ (0 : Int) := (by omega); have q113 : 0 < (l0.length : Int) := of_decide_eq_true (by first | (with_reducible assumption) | assumption); obtain ⟨ad113, e113, hx113_0, hx113_1⟩ := at_T57 HR0.out 0 p113 q113; obtain rfl : ad103 = ad113 := (by injection e113); have qi113 : (0 < l0.length) = True := eq_true (by omega); (try rw [show ((0 : Int)).toNat = 0 from rfl] at hx113_0); (try rw [show 0 * 2 = 0 from rfl] at hx113_0); (try rw [Addr.add_zero'] at hx113_0); (try rw [show ((0 : Int)).toNat = 0 from rfl] at hx113_1); (try rw [show 0 * 2 = 0 from rfl] at hx113_1); (try rw [Addr.add_zero'] at hx113_1); replace hx113_0 := (HB.out.cell (World.block_lt_of_cell? w _ hx113_0)).trans hx113_0; replace hx113_1 := (HB.out.cell (World.block_lt_of_cell? w _ hx113_1)).trans hx113_1; replace p113 := eq_true p113; replace q113 := eq_true q113) | ((with_reducible refine gate_dst (N := 54) rfl ?_); (try (refine gate_guard (by rfl) ?_; dsimp only)); refine Kd.R_lit Kd.string _ 9 ?hg (N := 54) ?hd (xs := ([(rd_T57 l0 x10_1).f1] : List ByteArray)) (inner := [.string ((rd_T57 l0 x10_1).f1)]) (ok := fun _ => True) (okp := fun _ => True) ?hr ?hp (fun _ hk => hk) trivial (Below.refl _ _) (Nat.le_refl _) (by simp) ?_; (case hd => rfl); (case hg => rfl); (case hr => first | (go_simp; done) | (go_simp; rfl)); (case hp => exact (Reps.one (show Kd.M Kd.string _ _ _ ((rd_T57 l0 x10_1).f1) [.string ((rd_T57 l0 x10_1).f1)] from rfl) (Reps.none _ _))); intro v115 w70 ho71 hb hg_ hnew_; clear hg_ hnew_; (first | rw [← Ny114.out] at ho71 | (simp only [Int.reduceToNat] at ho71; rw [← Ny114.out] at ho71)); have n0_ := Aside0.mk (Kd.R_lower ho71 (below_size (by repeat (first | (with_reducible first | exact HB.out | apply below_alloc | apply pw_below_drewN | apply below_drew1 | refine below_set ?_ GE104.out) | exact HB.out)))); have n1_ := Aside0.mk (blk_below (g := gb104) (o := .cells #[.string ((rd_T57 l0 x10_1).f0), .string ((rd_T57 l0 x10_1).f1)] 57 (0, 0)) (by (with_reducible repeat (first | refine blk_drewN ?_ _ | refine blk_drew ?_ | refine blk_alloc ?_ _)); exact BK104.out) hb); have n2_ := Aside0.mk (below_step (by repeat (first | (with_reducible first | exact HB.out | apply below_alloc | apply pw_below_drewN | apply below_drew1 | refine below_set ?_ GE104.out) | exact HB.out)) hb); clear BK104; clear HB; have HO116 := n0_; have BK104 := n1_; have HB := n2_; clear n0_ n1_ n2_; clear hb ho71; obtain ⟨Ao72, co72, eo72⟩ := Kd.R_slice HO116.out; subst eo72) | (go_at_call 65; (with_reducible refine (lines_May.calls k1 _ _ y114 true _ ?side1 ?side2 A64.out).mono ?_); (case side1 => repeat (first | exact (Kd.R_reads' HO116.out).2.2 | (with_reducible refine Kd.C_alloc ?_ _) | (with_reducible refine Kd.C_drewN ?_ _) | (with_reducible refine Kd.C_drew ?_))); (case side2 => exact (Kd.R_reads' HO116.out).2.1); rintro e w' ⟨rfl, ⟨nd, rfl⟩⟩))
                          go_roundg k1
                          case measure => have := HK1.out; omega
                          case rel => exact ⟨(wrap64 (x10_1 + 1)), (by first | rfl | (simp; done) | (simp [*]; done)), H', ⟨by have := HK1.out; omega⟩, ⟨by repeat (first | (with_reducible first | exact HB.out | apply below_alloc | apply pw_below_drewN | apply below_drew1 | refine below_set ?_ GE104.out) | exact HB.out)⟩⟩
                        · replace c65 := Bool.eq_false_iff.mpr c65
                          subst c65
                          have H1 : (some false) = some r := by rw [if_neg (show ¬ (false = true) by decide)] at H; exact H
                          clear H
                          have H := H1
                          clear H1
                          obtain rfl := Option.some.inj H
                          have p103 : 0 ≤ (x10_1 : Int) := of_decide_eq_true (by first | (with_reducible assumption) | assumption)
                          have q103 : x10_1 < (l0.length : Int) := of_decide_eq_true (by first | (with_reducible assumption) | assumption)
                          obtain ⟨ad103, e103, hx103_0, hx103_1⟩ := at_T57 HR0.out x10_1 p103 q103
                          cases e103
                          replace hx103_0 := (HB.out.cell (World.block_lt_of_cell? w _ hx103_0)).trans hx103_0
                          replace hx103_1 := (HB.out.cell (World.block_lt_of_cell? w _ hx103_1)).trans hx103_1
                          replace p103 := eq_true p103
                          replace q103 := eq_true q103
                          go_wp2_with (first | ((with_reducible refine gate_dst (N := 4) rfl ?_); (try (refine gate_guard (by rfl) ?_; dsimp only)); refine box_event ?hg (N := 4) ?hd (cs := #[.string (⟨#[]⟩ : ByteArray), .string (⟨#[]⟩ : ByteArray)]) (t := 57) ?hr ?_; (case hd => rfl); (case hg => rfl); (case hr => first | (go_simp; done) | (go_simp; rfl)); intro gb104 hg w73 hbox hb; have n0_ := Aside0.mk (below_step (by repeat (first | (with_reducible first | exact HB.out | apply below_alloc | apply pw_below_drewN | apply below_drew1) | exact HB.out)) hb); have n1_ := Aside0.mk (hbox); have n2_ := Aside0.mk ((by rw [hg]; exact (below_size (by repeat (first | (with_reducible first | exact HB.out | apply below_alloc | apply pw_below_drewN | apply below_drew1) | exact HB.out))) : w.heap.size ≤ gb104)); have n3_ := Aside0.mk ((by rw [hg]; exact (below_size (by repeat (first | (with_reducible first | exact HB.out | apply below_alloc | apply pw_below_drewN | apply below_drew1) | exact HB.out))) : w.heap.size ≤ gb104)); clear HB; have HB := n0_; have BK104 := n1_; have GW104 := n2_; have GE104 := n3_; clear n0_ n1_ n2_ n3_; clear hb hbox hg; have hcz74_0 : w73.cell? ⟨gb104, 0, none⟩ = some (.string (⟨#[]⟩ : ByteArray)) := (blk_cell BK104.out 0).trans rfl; have hcz74_1 : w73.cell? ⟨gb104, 1, none⟩ = some (.string (⟨#[]⟩ : ByteArray)) := (blk_cell BK104.out 1).trans rfl; have hfz74_0 := blk_frozen BK104.out 0; have hfz74_1 := blk_frozen BK104.out 1) | ((with_reducible refine gate_callee (f := 64) rfl ?_); refine goesL_ (some 19) rfl rfl Tryd.func64 (by kernel_rfl) rfl #[.string ((rd_T57 l0 x10_1).f0), .string (⟨#[32, 43, 45]⟩ : ByteArray)] rfl (by (try simp only [List.map_toArray, List.map_cons, List.map_nil]); first | done | rfl | (simp only [List.length_drop, List.length_take]; rfl)) ?_; (with_reducible refine (strings_Trim.calls ((rd_T57 l0 x10_1).f0) (⟨#[32, 43, 45]⟩ : ByteArray) t105 _ A5.out).mono ?_); rintro e w75 ⟨rfl, hb⟩; refine ⟨_, rfl, ?_⟩; have n0_ := Aside0.mk (blk_below (g := gb104) (o := .cells #[.string ((rd_T57 l0 x10_1).f0), .string ((rd_T57 l0 x10_1).f1)] 57 (0, 0)) (by (with_reducible repeat (first | refine blk_drewN ?_ _ | refine blk_drew ?_ | refine blk_alloc ?_ _)); refine blk_put (cs := #[.string ((rd_T57 l0 x10_1).f0), .string (⟨#[]⟩ : ByteArray)]) ?_ 1 _ rfl; (with_reducible repeat (first | refine blk_drewN ?_ _ | refine blk_drew ?_ | refine blk_alloc ?_ _)); refine blk_put (cs := #[.string (⟨#[]⟩ : ByteArray), .string (⟨#[]⟩ : ByteArray)]) ?_ 0 _ rfl; (with_reducible repeat (first | refine blk_drewN ?_ _ | refine blk_drew ?_ | refine blk_alloc ?_ _)); exact BK104.out) hb); have n1_ := Aside0.mk (below_step (by repeat (first | (with_reducible first | exact HB.out | apply below_alloc | apply pw_below_drewN | apply below_drew1 | refine below_set ?_ GE104.out) | exact HB.out)) hb); clear BK104; clear HB; have BK104 := n0_; have HB := n1_; clear n0_ n1_; (try clear hb); (try clear hb2); (try clear hk); (try clear hi); have hcz76_0 : w75.cell? ⟨gb104, 0, none⟩ = some (.string ((rd_T57 l0 x10_1).f0)) := (blk_cell BK104.out 0).trans rfl; have hcz76_1 : w75.cell? ⟨gb104, 1, none⟩ = some (.string ((rd_T57 l0 x10_1).f1)) := (blk_cell BK104.out 1).trans rfl; have hfz76_0 := blk_frozen BK104.out 0; have hfz76_1 := blk_frozen BK104.out 1) | ((with_reducible refine gate_callee (f := 62) rfl ?_); refine goesL_ (some 23) rfl rfl Tryd.func62 (by kernel_rfl) rfl #[.string ((rd_T57 l0 x10_1).f0), .string (⟨#[43]⟩ : ByteArray)] rfl (by (try simp only [List.map_toArray, List.map_cons, List.map_nil]); first | done | rfl | (simp only [List.length_drop, List.length_take]; rfl)) ?_; (with_reducible refine (strings_Contains.calls ((rd_T57 l0 x10_1).f0) (⟨#[43]⟩ : ByteArray) false _ A6.out).mono ?_); rintro e w' ⟨rfl, ⟨nd, rfl⟩⟩; refine ⟨_, rfl, ?_⟩; have p113 : 0 ≤ (0 : Int) := (by omega); have q113 : 0 < (l0.length : Int) := of_decide_eq_true (by first | (with_reducible assumption) | assumption); obtain ⟨ad113, e113, hx113_0, hx113_1⟩ := at_T57 HR0.out 0 p113 q113; obtain rfl : ad103 = ad113 := (by injection e113); have qi113 : (0 < l0.length) = True := eq_true (by omega); (try rw [show ((0 : Int)).toNat = 0 from rfl] at hx113_0); (try rw [show 0 * 2 = 0 from rfl] at hx113_0); (try rw [Addr.add_zero'] at hx113_0); (try rw [show ((0 : Int)).toNat = 0 from rfl] at hx113_1); (try rw [show 0 * 2 = 0 from rfl] at hx113_1); (try rw [Addr.add_zero'] at hx113_1); replace hx113_0 := (HB.out.cell (World.block_lt_of_cell? w _ hx113_0)).trans hx113_0; replace hx113_1 := (HB.out.cell (World.block_lt_of_cell? w _ hx113_1)).trans hx113_1; replace p113 := eq_true p113; replace q113 := eq_true q113) | ((with_reducible refine gate_dst (N := 54) rfl ?_); (try (refine gate_guard (by rfl) ?_; dsimp only)); refine Kd.R_lit Kd.string _ 9 ?hg (N := 54) ?hd (xs := ([(rd_T57 l0 x10_1).f1] : List ByteArray)) (inner := [.string ((rd_T57 l0 x10_1).f1)]) (ok := fun _ => True) (okp := fun _ => True) ?hr ?hp (fun _ hk => hk) trivial (Below.refl _ _) (Nat.le_refl _) (by simp) ?_; (case hd => rfl); (case hg => rfl); (case hr => first | (go_simp; done) | (go_simp; rfl)); (case hp => exact (Reps.one (show Kd.M Kd.string _ _ _ ((rd_T57 l0 x10_1).f1) [.string ((rd_T57 l0 x10_1).f1)] from rfl) (Reps.none _ _))); intro v115 w77 ho78 hb hg_ hnew_; clear hg_ hnew_; (first | rw [← Ny114.out] at ho78 | (simp only [Int.reduceToNat] at ho78; rw [← Ny114.out] at ho78)); have n0_ := Aside0.mk (Kd.R_lower ho78 (below_size (by repeat (first | (with_reducible first | exact HB.out | apply below_alloc | apply pw_below_drewN | apply below_drew1 | refine below_set ?_ GE104.out) | exact HB.out)))); have n1_ := Aside0.mk (blk_below (g := gb104) (o := .cells #[.string ((rd_T57 l0 x10_1).f0), .string ((rd_T57 l0 x10_1).f1)] 57 (0, 0)) (by (with_reducible repeat (first | refine blk_drewN ?_ _ | refine blk_drew ?_ | refine blk_alloc ?_ _)); exact BK104.out) hb); have n2_ := Aside0.mk (below_step (by repeat (first | (with_reducible first | exact HB.out | apply below_alloc | apply pw_below_drewN | apply below_drew1 | refine below_set ?_ GE104.out) | exact HB.out)) hb); clear BK104; clear HB; have HO116 := n0_; have BK104 := n1_; have HB := n2_; clear n0_ n1_ n2_; clear hb ho78; obtain ⟨Ao79, co79, eo79⟩ := Kd.R_slice HO116.out; subst eo79) | (go_at_call 65; (with_reducible refine (lines_May.calls k1 _ _ y114 false _ ?side1 ?side2 A64.out).mono ?_); (case side1 => repeat (first | exact (Kd.R_reads' HO116.out).2.2 | (with_reducible refine Kd.C_alloc ?_ _) | (with_reducible refine Kd.C_drewN ?_ _) | (with_reducible refine Kd.C_drew ?_))); (case side2 => exact (Kd.R_reads' HO116.out).2.1); rintro e w' ⟨rfl, ⟨nd, rfl⟩⟩))
                          go_ret
                          exact ⟨by first | rfl | (simp [errW_none, errW_some] <;> rfl) | (simp [errW_none, errW_some]; done) | (simp [errW_none, errW_some]; cases ByteArray.toList _ <;> rfl) | (simp [*, errW_none, errW_some] <;> rfl), by repeat (first | (with_reducible first | exact HB.out | apply below_alloc | apply pw_below_drewN | apply below_drew1 | refine below_set ?_ GE104.out) | exact HB.out)⟩
                      · rw [if_neg c63] at H
                        have c63b0 : (t105.toList == ([] : List UInt8)) = false := beq_eq_false_iff_ne.mpr c63
                        have c63b1 : (t105.toList != ([] : List UInt8)) = true := bne_iff_ne.mpr c63
                        obtain rfl := Option.some.inj H
                        have p103 : 0 ≤ (x10_1 : Int) := of_decide_eq_true (by first | (with_reducible assumption) | assumption)
                        have q103 : x10_1 < (l0.length : Int) := of_decide_eq_true (by first | (with_reducible assumption) | assumption)
                        obtain ⟨ad103, e103, hx103_0, hx103_1⟩ := at_T57 HR0.out x10_1 p103 q103
                        cases e103
                        replace hx103_0 := (HB.out.cell (World.block_lt_of_cell? w _ hx103_0)).trans hx103_0
                        replace hx103_1 := (HB.out.cell (World.block_lt_of_cell? w _ hx103_1)).trans hx103_1
                        replace p103 := eq_true p103
                        replace q103 := eq_true q103
                        go_wp2_with (first | ((with_reducible refine gate_dst (N := 4) rfl ?_); (try (refine gate_guard (by rfl) ?_; dsimp only)); refine box_event ?hg (N := 4) ?hd (cs := #[.string (⟨#[]⟩ : ByteArray), .string (⟨#[]⟩ : ByteArray)]) (t := 57) ?hr ?_; (case hd => rfl); (case hg => rfl); (case hr => first | (go_simp; done) | (go_simp; rfl)); intro gb104 hg w80 hbox hb; have n0_ := Aside0.mk (below_step (by repeat (first | (with_reducible first | exact HB.out | apply below_alloc | apply pw_below_drewN | apply below_drew1) | exact HB.out)) hb); have n1_ := Aside0.mk (hbox); have n2_ := Aside0.mk ((by rw [hg]; exact (below_size (by repeat (first | (with_reducible first | exact HB.out | apply below_alloc | apply pw_below_drewN | apply below_drew1) | exact HB.out))) : w.heap.size ≤ gb104)); have n3_ := Aside0.mk ((by rw [hg]; exact (below_size (by repeat (first | (with_reducible first | exact HB.out | apply below_alloc | apply pw_below_drewN | apply below_drew1) | exact HB.out))) : w.heap.size ≤ gb104)); clear HB; have HB := n0_; have BK104 := n1_; have GW104 := n2_; have GE104 := n3_; clear n0_ n1_ n2_ n3_; clear hb hbox hg; have hcz81_0 : w80.cell? ⟨gb104, 0, none⟩ = some (.string (⟨#[]⟩ : ByteArray)) := (blk_cell BK104.out 0).trans rfl; have hcz81_1 : w80.cell? ⟨gb104, 1, none⟩ = some (.string (⟨#[]⟩ : ByteArray)) := (blk_cell BK104.out 1).trans rfl; have hfz81_0 := blk_frozen BK104.out 0; have hfz81_1 := blk_frozen BK104.out 1) | ((with_reducible refine gate_callee (f := 64) rfl ?_); refine goesL_ (some 19) rfl rfl Tryd.func64 (by kernel_rfl) rfl #[.string ((rd_T57 l0 x10_1).f0), .string (⟨#[32, 43, 45]⟩ : ByteArray)] rfl (by (try simp only [List.map_toArray, List.map_cons, List.map_nil]); first | done | rfl | (simp only [List.length_drop, List.length_take]; rfl)) ?_; (with_reducible refine (strings_Trim.calls ((rd_T57 l0 x10_1).f0) (⟨#[32, 43, 45]⟩ : ByteArray) t105 _ A5.out).mono ?_); rintro e w82 ⟨rfl, hb⟩; refine ⟨_, rfl, ?_⟩; have n0_ := Aside0.mk (blk_below (g := gb104) (o := .cells #[.string ((rd_T57 l0 x10_1).f0), .string ((rd_T57 l0 x10_1).f1)] 57 (0, 0)) (by (with_reducible repeat (first | refine blk_drewN ?_ _ | refine blk_drew ?_ | refine blk_alloc ?_ _)); refine blk_put (cs := #[.string ((rd_T57 l0 x10_1).f0), .string (⟨#[]⟩ : ByteArray)]) ?_ 1 _ rfl; (with_reducible repeat (first | refine blk_drewN ?_ _ | refine blk_drew ?_ | refine blk_alloc ?_ _)); refine blk_put (cs := #[.string (⟨#[]⟩ : ByteArray), .string (⟨#[]⟩ : ByteArray)]) ?_ 0 _ rfl; (with_reducible repeat (first | refine blk_drewN ?_ _ | refine blk_drew ?_ | refine blk_alloc ?_ _)); exact BK104.out) hb); have n1_ := Aside0.mk (below_step (by repeat (first | (with_reducible first | exact HB.out | apply below_alloc | apply pw_below_drewN | apply below_drew1 | refine below_set ?_ GE104.out) | exact HB.out)) hb); clear BK104; clear HB; have BK104 := n0_; have HB := n1_; clear n0_ n1_; (try clear hb); (try clear hb2); (try clear hk); (try clear hi); have hcz83_0 : w82.cell? ⟨gb104, 0, none⟩ = some (.string ((rd_T57 l0 x10_1).f0)) := (blk_cell BK104.out 0).trans rfl; have hcz83_1 : w82.cell? ⟨gb104, 1, none⟩ = some (.string ((rd_T57 l0 x10_1).f1)) := (blk_cell BK104.out 1).trans rfl; have hfz83_0 := blk_frozen BK104.out 0; have hfz83_1 := blk_frozen BK104.out 1) | ((with_reducible refine gate_callee (f := 62) rfl ?_); refine goesL_ (some 23) rfl rfl Tryd.func62 (by kernel_rfl) rfl #[.string ((rd_T57 l0 x10_1).f0), .string (⟨#[43]⟩ : ByteArray)] rfl (by (try simp only [List.map_toArray, List.map_cons, List.map_nil]); first | done | rfl | (simp only [List.length_drop, List.length_take]; rfl)) ?_; (with_reducible refine (strings_Contains.calls ((rd_T57 l0 x10_1).f0) (⟨#[43]⟩ : ByteArray) false _ A6.out).mono ?_); rintro e w' ⟨rfl, ⟨nd, rfl⟩⟩; refine ⟨_, rfl, ?_⟩; have p113 : 0 ≤ (0 : Int) := (by omega); have q113 : 0 < (l0.length : Int) := of_decide_eq_true (by first | (with_reducible assumption) | assumption); obtain ⟨ad113, e113, hx113_0, hx113_1⟩ := at_T57 HR0.out 0 p113 q113; obtain rfl : ad103 = ad113 := (by injection e113); have qi113 : (0 < l0.length) = True := eq_true (by omega); (try rw [show ((0 : Int)).toNat = 0 from rfl] at hx113_0); (try rw [show 0 * 2 = 0 from rfl] at hx113_0); (try rw [Addr.add_zero'] at hx113_0); (try rw [show ((0 : Int)).toNat = 0 from rfl] at hx113_1); (try rw [show 0 * 2 = 0 from rfl] at hx113_1); (try rw [Addr.add_zero'] at hx113_1); replace hx113_0 := (HB.out.cell (World.block_lt_of_cell? w _ hx113_0)).trans hx113_0; replace hx113_1 := (HB.out.cell (World.block_lt_of_cell? w _ hx113_1)).trans hx113_1; replace p113 := eq_true p113; replace q113 := eq_true q113))
                        go_ret
                        exact ⟨by first | rfl | (simp [errW_none, errW_some] <;> rfl) | (simp [errW_none, errW_some]; done) | (simp [errW_none, errW_some]; cases ByteArray.toList _ <;> rfl) | (simp [*, errW_none, errW_some] <;> rfl), by repeat (first | (with_reducible first | exact HB.out | apply below_alloc | apply pw_below_drewN | apply below_drew1 | refine below_set ?_ GE104.out) | exact HB.out)⟩
                · rw [if_neg c52] at H
                  have c52b0 : ((((rd_T57 l0 x10_1).f0).size : Int) == (((rd_T57 l0 0).f0).size : Int)) = false := beq_eq_false_iff_ne.mpr c52
                  have c52b1 : ((((rd_T57 l0 x10_1).f0).size : Int) != (((rd_T57 l0 0).f0).size : Int)) = true := bne_iff_ne.mpr c52
                  have c52b2 : (((rd_T57 l0 x10_1).f0).size == ((rd_T57 l0 0).f0).size) = false := by first | simpa using c52 | (simp at c52 ⊢; omega)
                  obtain rfl := Option.some.inj H
                  have p103 : 0 ≤ (x10_1 : Int) := of_decide_eq_true (by first | (with_reducible assumption) | assumption)
                  have q103 : x10_1 < (l0.length : Int) := of_decide_eq_true (by first | (with_reducible assumption) | assumption)
                  obtain ⟨ad103, e103, hx103_0, hx103_1⟩ := at_T57 HR0.out x10_1 p103 q103
                  cases e103
                  replace hx103_0 := (HB.out.cell (World.block_lt_of_cell? w _ hx103_0)).trans hx103_0
                  replace hx103_1 := (HB.out.cell (World.block_lt_of_cell? w _ hx103_1)).trans hx103_1
                  replace p103 := eq_true p103
                  replace q103 := eq_true q103
                  go_wp2_with (first | ((with_reducible refine gate_dst (N := 4) rfl ?_); (try (refine gate_guard (by rfl) ?_; dsimp only)); refine box_event ?hg (N := 4) ?hd (cs := #[.string (⟨#[]⟩ : ByteArray), .string (⟨#[]⟩ : ByteArray)]) (t := 57) ?hr ?_; (case hd => rfl); (case hg => rfl); (case hr => first | (go_simp; done) | (go_simp; rfl)); intro gb104 hg w84 hbox hb; have n0_ := Aside0.mk (below_step (by repeat (first | (with_reducible first | exact HB.out | apply below_alloc | apply pw_below_drewN | apply below_drew1) | exact HB.out)) hb); have n1_ := Aside0.mk (hbox); have n2_ := Aside0.mk ((by rw [hg]; exact (below_size (by repeat (first | (with_reducible first | exact HB.out | apply below_alloc | apply pw_below_drewN | apply below_drew1) | exact HB.out))) : w.heap.size ≤ gb104)); have n3_ := Aside0.mk ((by rw [hg]; exact (below_size (by repeat (first | (with_reducible first | exact HB.out | apply below_alloc | apply pw_below_drewN | apply below_drew1) | exact HB.out))) : w.heap.size ≤ gb104)); clear HB; have HB := n0_; have BK104 := n1_; have GW104 := n2_; have GE104 := n3_; clear n0_ n1_ n2_ n3_; clear hb hbox hg; have hcz85_0 : w84.cell? ⟨gb104, 0, none⟩ = some (.string (⟨#[]⟩ : ByteArray)) := (blk_cell BK104.out 0).trans rfl; have hcz85_1 : w84.cell? ⟨gb104, 1, none⟩ = some (.string (⟨#[]⟩ : ByteArray)) := (blk_cell BK104.out 1).trans rfl; have hfz85_0 := blk_frozen BK104.out 0; have hfz85_1 := blk_frozen BK104.out 1) | ((with_reducible refine gate_callee (f := 64) rfl ?_); refine goesL_ (some 19) rfl rfl Tryd.func64 (by kernel_rfl) rfl #[.string ((rd_T57 l0 x10_1).f0), .string (⟨#[32, 43, 45]⟩ : ByteArray)] rfl (by (try simp only [List.map_toArray, List.map_cons, List.map_nil]); first | done | rfl | (simp only [List.length_drop, List.length_take]; rfl)) ?_; (with_reducible refine (strings_Trim.calls ((rd_T57 l0 x10_1).f0) (⟨#[32, 43, 45]⟩ : ByteArray) t105 _ A5.out).mono ?_); rintro e w86 ⟨rfl, hb⟩; refine ⟨_, rfl, ?_⟩; have n0_ := Aside0.mk (blk_below (g := gb104) (o := .cells #[.string ((rd_T57 l0 x10_1).f0), .string ((rd_T57 l0 x10_1).f1)] 57 (0, 0)) (by (with_reducible repeat (first | refine blk_drewN ?_ _ | refine blk_drew ?_ | refine blk_alloc ?_ _)); refine blk_put (cs := #[.string ((rd_T57 l0 x10_1).f0), .string (⟨#[]⟩ : ByteArray)]) ?_ 1 _ rfl; (with_reducible repeat (first | refine blk_drewN ?_ _ | refine blk_drew ?_ | refine blk_alloc ?_ _)); refine blk_put (cs := #[.string (⟨#[]⟩ : ByteArray), .string (⟨#[]⟩ : ByteArray)]) ?_ 0 _ rfl; (with_reducible repeat (first | refine blk_drewN ?_ _ | refine blk_drew ?_ | refine blk_alloc ?_ _)); exact BK104.out) hb); have n1_ := Aside0.mk (below_step (by repeat (first | (with_reducible first | exact HB.out | apply below_alloc | apply pw_below_drewN | apply below_drew1 | refine below_set ?_ GE104.out) | exact HB.out)) hb); clear BK104; clear HB; have BK104 := n0_; have HB := n1_; clear n0_ n1_; (try clear hb); (try clear hb2); (try clear hk); (try clear hi); have hcz87_0 : w86.cell? ⟨gb104, 0, none⟩ = some (.string ((rd_T57 l0 x10_1).f0)) := (blk_cell BK104.out 0).trans rfl; have hcz87_1 : w86.cell? ⟨gb104, 1, none⟩ = some (.string ((rd_T57 l0 x10_1).f1)) := (blk_cell BK104.out 1).trans rfl; have hfz87_0 := blk_frozen BK104.out 0; have hfz87_1 := blk_frozen BK104.out 1) | ((with_reducible refine gate_callee (f := 62) rfl ?_); refine goesL_ (some 23) rfl rfl Tryd.func62 (by kernel_rfl) rfl #[.string ((rd_T57 l0 x10_1).f0), .string (⟨#[43]⟩ : ByteArray)] rfl (by (try simp only [List.map_toArray, List.map_cons, List.map_nil]); first | done | rfl | (simp only [List.length_drop, List.length_take]; rfl)) ?_; (with_reducible refine (strings_Contains.calls ((rd_T57 l0 x10_1).f0) (⟨#[43]⟩ : ByteArray) false _ A6.out).mono ?_); rintro e w' ⟨rfl, ⟨nd, rfl⟩⟩; refine ⟨_, rfl, ?_⟩; have p113 : 0 ≤ (0 : Int) := (by omega); have q113 : 0 < (l0.length : Int) := of_decide_eq_true (by first | (with_reducible assumption) | assumption); obtain ⟨ad113, e113, hx113_0, hx113_1⟩ := at_T57 HR0.out 0 p113 q113; obtain rfl : ad103 = ad113 := (by injection e113); have qi113 : (0 < l0.length) = True := eq_true (by omega); (try rw [show ((0 : Int)).toNat = 0 from rfl] at hx113_0); (try rw [show 0 * 2 = 0 from rfl] at hx113_0); (try rw [Addr.add_zero'] at hx113_0); (try rw [show ((0 : Int)).toNat = 0 from rfl] at hx113_1); (try rw [show 0 * 2 = 0 from rfl] at hx113_1); (try rw [Addr.add_zero'] at hx113_1); replace hx113_0 := (HB.out.cell (World.block_lt_of_cell? w _ hx113_0)).trans hx113_0; replace hx113_1 := (HB.out.cell (World.block_lt_of_cell? w _ hx113_1)).trans hx113_1; replace p113 := eq_true p113; replace q113 := eq_true q113))
                  go_ret
                  exact ⟨by first | rfl | (simp [errW_none, errW_some] <;> rfl) | (simp [errW_none, errW_some]; done) | (simp [errW_none, errW_some]; cases ByteArray.toList _ <;> rfl) | (simp [*, errW_none, errW_some] <;> rfl), by repeat (first | (with_reducible first | exact HB.out | apply below_alloc | apply pw_below_drewN | apply below_drew1 | refine below_set ?_ GE104.out) | exact HB.out)⟩
              · rw [if_neg c51] at H
                exact absurd H (by simp)
          · rw [if_neg c4] at H
            exact absurd H (by simp)
        · rw [if_neg c3] at H
          exact absurd H (by simp)
      · rw [if_neg c2] at H
        have c2b0 : decide (x10_1 < (l0.length : Int)) = false := decide_eq_false c2
        clear c2
        obtain rfl := Option.some.inj H
        go_wp2
        go_ret
        exact ⟨by first | rfl | (simp [errW_none, errW_some] <;> rfl) | (simp [errW_none, errW_some]; done) | (simp [errW_none, errW_some]; cases ByteArray.toList _ <;> rfl) | (simp [*, errW_none, errW_some] <;> rfl), by repeat (first | (with_reducible first | exact HB.out | apply below_alloc | apply pw_below_drewN | apply below_drew1) | exact HB.out)⟩

end Go.Proofs.YthcnfflhejogfaaDoor.X
-- part XCn1
namespace Go.Proofs.YthcnfflhejogfaaDoor.X
open Go.RowKit Go.Proofs.YthcnfflhejogfaaDoorW.PrintWords Go.Proofs.YthcnfflhejogfaaDoorW.PrintLast Go.Proofs.YthcnfflhejogfaaDoorW.PrintMore
attribute [local go_sem] max2_int min2_int max_two min_two max_three min_three max_four min_four   -- for this text's walks alone
set_option linter.unusedVariables false
set_option linter.unusedSimpArgs false
mutual
def hunk_show.l0 : Nat → List Bool → List (S57) → Int → Int → Int → Int → Option (List Bool)
  | 0, _, _, _, _, _, _ => none
  | k + 1, x0, x1, x3, x8, x102000, x102001 => if x8 < x102001 then (if 0 ≤ x8 then (if x8 < (x0.length : Int) then (hunk_show.l0 k (x0.set (x8 : Int).toNat true) x1 x3 (wrap64 (x8 + 1)) x102000 x102001) else (none)) else (none)) else (hunk_show.l1 k x0 x1 x3 (wrap64 (x102000 - 1)) x102000 x102001)
def hunk_show.j2 : Nat → List Bool → List (S57) → Int → Int → Int → Option (List Bool)
  | 0, _, _, _, _, _ => none
  | k + 1, x0, x1, x3, x102000, x102001 => hunk_show.l2 k x0 x1 x3 x102001 x102000 x102001
def hunk_show.l2 : Nat → List Bool → List (S57) → Int → Int → Int → Int → Option (List Bool)
  | 0, _, _, _, _, _, _ => none
  | k + 1, x0, x1, x3, x10, x102000, x102001 => if x10 < (x1.length : Int) then (if x10 < (wrap64 (x102001 + x3)) then (if 0 ≤ x10 then ((hunk_marked.f ((rd_T57 x1 x10).f0) ((rd_T57 x1 x10).f1)).bind fun t107 => (if t107 = true then (some x0) else (if x10 < (x0.length : Int) then (hunk_show.l2 k (x0.set (x10 : Int).toNat true) x1 x3 (wrap64 (x10 + 1)) x102000 x102001) else (none)))) else (none)) else (some x0)) else (some x0)
def hunk_show.l1 : Nat → List Bool → List (S57) → Int → Int → Int → Int → Option (List Bool)
  | 0, _, _, _, _, _, _ => none
  | k + 1, x0, x1, x3, x9, x102000, x102001 => if x9 ≥ 0 then (if x9 ≥ (wrap64 (x102000 - x3)) then (if 0 ≤ x9 then (if x9 < (x1.length : Int) then ((hunk_marked.f ((rd_T57 x1 x9).f0) ((rd_T57 x1 x9).f1)).bind fun t104 => (if t104 = true then (hunk_show.j2 k x0 x1 x3 x102000 x102001) else (if x9 < (x0.length : Int) then (hunk_show.l1 k (x0.set (x9 : Int).toNat true) x1 x3 (wrap64 (x9 - 1)) x102000 x102001) else (none)))) else (none)) else (none)) else (hunk_show.j2 k x0 x1 x3 x102000 x102001)) else (hunk_show.j2 k x0 x1 x3 x102000 x102001)
end
def hunk_show.f (k : Nat) (l0 : List Bool) (l1 : List (S57)) (a2_0 : Int) (a2_1 : Int) (a3 : Int) : Option (List Bool) := hunk_show.l0 k l0 l1 a3 a2_0 a2_0 a2_1
set_option maxHeartbeats 8000000 in
set_option maxRecDepth 100000 in
theorem hunk_show.calls (k : Nat) (P0_ : Nat → Prop) (u9000_ : Value) (l0 : List Bool) (A1 : Option Addr) (c1 : Nat) (l1 : List (S57)) (a2_0 : Int) (a2_1 : Int) (a3 : Int) (r : List Bool) (w0 w : World) (hB : Below w0.heap.size w0 w) (ho0 : Kd.R Kd.bool 4 w w0.heap.size P0_ u9000_ l0) (hr1 : ∀ W_, Kept w W_ (fun k_ => P0_ k_) → Kd.C k57 W_ A1 l1.length l1) (hc1 : l1.length ≤ c1) (h : hunk_show.f k l0 l1 a2_0 a2_1 a3 = some r) :
    Calls Tryd.prog 54 #[u9000_, .slice A1 l1.length c1, .agg #[.int .i64 a2_0, .int .i64 a2_1], .int .i64 a3] w fun e w' => e = .returned (.tuple #[]) ∧ Kd.R Kd.bool 4 w' w0.heap.size (fun k_ => (P0_ k_ ∨ w.heap.size ≤ k_)) u9000_ r ∧ Below w0.heap.size w0 w' ∧ Kept w w' (fun k_ => P0_ k_) := by
  have hu45 := Tryd.underlying45
  have hu57 := Tryd.underlying57
  have HO0 := Aside0.mk (show Kd.R Kd.bool 4 w w0.heap.size (fun k_ => (P0_ k_ ∨ w.heap.size ≤ k_)) u9000_ l0 from Kd.R_mono ho0 (fun k_ hk => (.inl hk)))
  have HR1 := Aside0.mk hr1
  have HC1 := Aside0.mk hc1
  clear hr1 hc1
  have HK := Aside0.mk (Kept.refl w (fun k_ => P0_ k_))
  have HW0 := Aside0.mk hB.size
  have HB := Aside0.mk hB
  clear hB
  have H : (hunk_show.l0 k l0 l1 a3 a2_0 a2_0 a2_1) = some r := h
  clear h
  have H' := Aside0.mk H
  clear H
  go_enter Tryd.func54, Tryd.ntmps54
  go_wp2_with (first | ((with_reducible refine gate_dst (N := 6) rfl ?_); refine box_event ?hg (N := 6) ?hd (cs := #[.int .i64 a2_0, .int .i64 a2_1]) (t := 45) ?hr ?_; (case hd => rfl); (case hg => rfl); (case hr => first | (go_simp; done) | (go_simp; rfl)); intro gb101 hg w5 hbox hb; have n0_ := Aside0.mk (Kd.R_below (by (with_reducible repeat (first | apply Kd.R_alloc | apply Kd.R_drewN | apply Kd.R_drew)); exact HO0.out) hb); have n1_ := Aside0.mk (Kept.below (S := (fun k_ => P0_ k_)) (by repeat (first | (with_reducible first | exact HK.out | apply Kept.alloc | apply Kept.drewN | apply Kept.drew) | exact HK.out)) hb); have n2_ := Aside0.mk (below_step (by repeat (first | (with_reducible first | exact HB.out | apply below_alloc | apply pw_below_drewN | apply below_drew1) | exact HB.out)) hb); have n3_ := Aside0.mk (hbox); have n4_ := Aside0.mk ((by rw [hg]; exact (by first | exact HK.out.1 | exact (show Kept w _ (fun k_ => P0_ k_) from by repeat (first | (with_reducible first | exact HK.out | apply Kept.alloc | apply Kept.drewN | apply Kept.drew) | exact HK.out)).1) : w.heap.size ≤ gb101)); have n5_ := Aside0.mk ((by rw [hg]; exact (below_size (by repeat (first | (with_reducible first | exact HB.out | apply below_alloc | apply pw_below_drewN | apply below_drew1) | exact HB.out))) : w0.heap.size ≤ gb101)); clear HO0; clear HK; clear HB; have HO0 := n0_; have HK := n1_; have HB := n2_; have BK101 := n3_; have GW101 := n4_; have GE101 := n5_; clear n0_ n1_ n2_ n3_ n4_ n5_; clear hb hbox hg; have hcz6_0 : w5.cell? ⟨gb101, 0, none⟩ = some (.int .i64 a2_0) := (blk_cell BK101.out 0).trans rfl; have hcz6_1 : w5.cell? ⟨gb101, 1, none⟩ = some (.int .i64 a2_1) := (blk_cell BK101.out 1).trans rfl; have hfz6_0 := blk_frozen BK101.out 0; have hfz6_1 := blk_frozen BK101.out 1))
  go_loopg [8] k (fun kq v8 w' => ∃ (x0_1 : List Bool) (x8_1 : Int), v8 = .int .i64 x8_1 ∧ Aside0 (hunk_show.l0 kq x0_1 l1 a3 x8_1 a2_0 a2_1 = some r) ∧ Aside0 (kq ≤ k) ∧ Aside0 (Kd.R Kd.bool 4 w' w0.heap.size (fun k_ => (P0_ k_ ∨ w.heap.size ≤ k_)) u9000_ x0_1) ∧ Aside0 (w'.heap[gb101]? = some (.cells #[.int .i64 a2_0, .int .i64 a2_1] 45 (0, 0))) ∧ Aside0 (Kept w w' (fun k_ => P0_ k_)) ∧ Aside0 (Below w0.heap.size w0 w'))
  case atStart => exact ⟨(l0), (a2_0), (by first | rfl | (simp; done) | (simp [*]; done)), H', ⟨Nat.le_refl _⟩, ⟨by (with_reducible repeat (first | apply Kd.R_alloc | apply Kd.R_drewN | apply Kd.R_drew)); exact HO0.out⟩, ⟨by (with_reducible repeat (first | refine blk_drewN ?_ _ | refine blk_drew ?_ | refine blk_alloc ?_ _)); exact BK101.out⟩, ⟨by repeat (first | (with_reducible first | exact HK.out | apply Kept.alloc | apply Kept.drewN | apply Kept.drew | refine Kept.setCell ?_ (.inr GW101.out) _) | exact HK.out)⟩, ⟨by repeat (first | (with_reducible first | exact HB.out | apply below_alloc | apply pw_below_drewN | apply below_drew1 | refine below_set ?_ GE101.out) | exact HB.out)⟩⟩
  case round =>
    clear H'
    try clear c1
    try clear p2
    try clear c5
    try clear hcz6_0
    try clear hcz6_1
    try clear hfz6_0
    try clear hfz6_1
    obtain ⟨x0_1, x8_1, rfl, HA, HK1, HO_0, BK101, HK, HB⟩ := hrel
    cases gk with
    | zero => exact absurd HA.out (by simp [hunk_show.l0])
    | succ k1 =>
      have H := HA.out
      clear HA
      simp only [hunk_show.l0] at H
      by_cases c7 : x8_1 < a2_1
      · rw [if_pos c7] at H
        have c7b0 : decide (x8_1 < a2_1) = true := decide_eq_true c7
        clear c7
        by_cases c8 : 0 ≤ x8_1
        · rw [if_pos c8] at H
          have c8b0 : decide (0 ≤ x8_1) = true := decide_eq_true c8
          clear c8
          by_cases c9 : x8_1 < (x0_1.length : Int)
          · rw [if_pos c9] at H
            have c9b0 : decide (x8_1 < (x0_1.length : Int)) = true := decide_eq_true c9
            clear c9
            obtain ⟨y102, hy102⟩ : ∃ y_ : List Bool, y_ = (x0_1.set (x8_1 : Int).toNat true) := ⟨_, rfl⟩
            replace H : (hunk_show.l0 k1 y102 l1 a3 (wrap64 (x8_1 + 1)) a2_0 a2_1) = some r := by first | (rw [hy102]; with_reducible exact H) | (have H2_ := (Option.bind_some _ _).symm.trans H; rw [hy102]; with_reducible exact H2_) | (have H2_ := (Option.bind_some _ _).symm.trans H; with_reducible exact H2_) | with_reducible exact H | (rw [hy102]; exact H) | exact H
            have Ny102 := Aside0.mk hy102
            clear hy102
            have H' := Aside0.mk H
            clear H
            have hcz11_0 : wr.cell? ⟨gb101, 0, none⟩ = some (.int .i64 a2_0) := (blk_cell BK101.out 0).trans rfl
            have hcz11_1 : wr.cell? ⟨gb101, 1, none⟩ = some (.int .i64 a2_1) := (blk_cell BK101.out 1).trans rfl
            have hfz11_0 := blk_frozen BK101.out 0
            have hfz11_1 := blk_frozen BK101.out 1
            have p10 : 0 ≤ (x8_1 : Int) := of_decide_eq_true (by first | (with_reducible assumption) | assumption)
            have q10 : (x8_1 : Int) < ((x0_1.length : Int) : Int) := of_decide_eq_true (by first | (with_reducible assumption) | assumption)
            obtain ⟨go10, co10, eo10, gb10, gl10, cl10, HG10⟩ := Kd.R_form HO_0.out (by omega)
            (first | cases eo10 | (injection eo10 with ea_ en_ ec_; (first | subst ea_ | (injection ea_ with ea_; subst ea_)); subst ec_; clear en_))
            have GB10 := Aside0.mk gb10
            have GG10 := Aside0.mk HG10
            clear gb10 gl10 HG10
            have HMgo10 := Aside0.mk (show (P0_ go10 ∨ w.heap.size ≤ go10) from (HO_0.out.1 _ rfl))
            obtain ⟨hx10_0, hf10_0⟩ := Kd.R_celln false HO_0.out (x8_1 : Int) p10 q10
            replace p10 := eq_true p10
            replace q10 := eq_true q10
            have HP12 := Kd.R_putg HO_0.out (x8_1 : Int) true
            go_wp2_with (first | ((with_reducible refine gate_store (t := 4) (p := 21) rfl ?_); refine store_event (t := 4) (p := 21) (v := ?vo_w13) (w1 := (wr.setCell ⟨go10, (x8_1 : Int).toNat, none⟩ (.bool true))) ?hg ?ho ?hn ?hr ?_; (case ho => rfl); (case hg => rfl); (case hn => rfl); (case hr => first | (go_simp; done) | (go_simp; rfl)); intro w13 hw; have hg : wr.grownBy w13 (some go10) := (by rw [hw]; exact HP12.2); have hp_ : Kd.R Kd.bool 4 w13 w0.heap.size (fun k_ => (P0_ k_ ∨ w.heap.size ≤ k_)) (.slice (some ⟨go10, 0, none⟩) x0_1.length co10) y102 := (by rw [hw, Ny102.out]; exact HP12.1); clear HP12; have n0_ := Aside0.mk (hp_); have n1_ := Aside0.mk (blk_grown (g := gb101) (o := .cells #[.int .i64 a2_0, .int .i64 a2_1] 45 (0, 0)) (by (with_reducible repeat (first | refine blk_drewN ?_ _ | refine blk_drew ?_ | refine blk_alloc ?_ _)); exact BK101.out) hg (Kd.R_ne HO_0.out BK101.out (by decide))); have n2_ := Aside0.mk ((by rw [hw]; exact below_set (HB.out) GB10.out : Below w0.heap.size w0 w13)); have n3_ := Aside0.mk (Kept.of_grown (S := (fun k_ => P0_ k_)) hg (by repeat (first | (with_reducible first | exact HK.out | apply Kept.alloc | apply Kept.drewN | apply Kept.drew | refine Kept.setCell ?_ (.inr GW101.out) _) | exact HK.out)) (fun k_ e_ => (HO_0.out.1 k_ e_))); clear HO_0; clear BK101; clear HB; clear HK; have HO_0 := n0_; have BK101 := n1_; have HB := n2_; have HK := n3_; clear n0_ n1_ n2_ n3_; clear hg hw hp_))
            go_roundg k1
            case measure => have := HK1.out; omega
            case rel => exact ⟨(y102), (wrap64 (x8_1 + 1)), (by first | rfl | (simp; done) | (simp [*]; done)), H', ⟨by have := HK1.out; omega⟩, ⟨by (with_reducible repeat (first | apply Kd.R_alloc | apply Kd.R_drewN | apply Kd.R_drew)); exact HO_0.out⟩, ⟨by (with_reducible repeat (first | refine blk_drewN ?_ _ | refine blk_drew ?_ | refine blk_alloc ?_ _)); exact BK101.out⟩, ⟨by repeat (first | (with_reducible first | exact HK.out | apply Kept.alloc | apply Kept.drewN | apply Kept.drew | refine Kept.setCell ?_ (.inr GW101.out) _) | exact HK.out)⟩, ⟨by repeat (first | (with_reducible first | exact HB.out | apply below_alloc | apply pw_below_drewN | apply below_drew1 | refine below_set ?_ GE101.out) | exact HB.out)⟩⟩
          · rw [if_neg c9] at H
            exact absurd H (by simp)
        · rw [if_neg c8] at H
          exact absurd H (by simp)
      · rw [if_neg c7] at H
        have c7b0 : decide (x8_1 < a2_1) = false := decide_eq_false c7
        clear c7
        have HC14 := Aside0.mk H
        clear H
        have hcz15_0 : wr.cell? ⟨gb101, 0, none⟩ = some (.int .i64 a2_0) := (blk_cell BK101.out 0).trans rfl
        have hcz15_1 : wr.cell? ⟨gb101, 1, none⟩ = some (.int .i64 a2_1) := (blk_cell BK101.out 1).trans rfl
        have hfz15_0 := blk_frozen BK101.out 0
        have hfz15_1 := blk_frozen BK101.out 1
        go_upto_block 2 with (fail)
        go_cut [] (fun wc => ∃ (kq : Nat) (x0_13 : List Bool), Aside0 (hunk_show.j2 kq x0_13 l1 a3 a2_0 a2_1 = some r) ∧ Aside0 (kq ≤ k1) ∧ Aside0 (Kd.R Kd.bool 4 wc w0.heap.size (fun k_ => (P0_ k_ ∨ w.heap.size ≤ k_)) u9000_ x0_13) ∧ Aside0 (wc.heap[gb101]? = some (.cells #[.int .i64 a2_0, .int .i64 a2_1] 45 (0, 0))) ∧ Aside0 (Kept w wc (fun k_ => P0_ k_)) ∧ Aside0 (Below w0.heap.size w0 wc))
        case first =>
          have H := HC14.out
          clear HC14
          have H' := Aside0.mk H
          clear H
          go_wp2
          go_loopg [9] k1 (fun kq v9 w' => ∃ (x0_2 : List Bool) (x9_2 : Int), v9 = .int .i64 x9_2 ∧ Aside0 (hunk_show.l1 kq x0_2 l1 a3 x9_2 a2_0 a2_1 = some r) ∧ Aside0 (kq ≤ k1) ∧ Aside0 (Kd.R Kd.bool 4 w' w0.heap.size (fun k_ => (P0_ k_ ∨ w.heap.size ≤ k_)) u9000_ x0_2) ∧ Aside0 (w'.heap[gb101]? = some (.cells #[.int .i64 a2_0, .int .i64 a2_1] 45 (0, 0))) ∧ Aside0 (Kept w w' (fun k_ => P0_ k_)) ∧ Aside0 (Below w0.heap.size w0 w'))
          case atStart => exact ⟨(x0_1), (wrap64 (a2_0 - 1)), (by first | rfl | (simp; done) | (simp [*]; done)), H', ⟨Nat.le_refl _⟩, ⟨by (with_reducible repeat (first | apply Kd.R_alloc | apply Kd.R_drewN | apply Kd.R_drew)); exact HO_0.out⟩, ⟨by (with_reducible repeat (first | refine blk_drewN ?_ _ | refine blk_drew ?_ | refine blk_alloc ?_ _)); exact BK101.out⟩, ⟨by repeat (first | (with_reducible first | exact HK.out | apply Kept.alloc | apply Kept.drewN | apply Kept.drew | refine Kept.setCell ?_ (.inr GW101.out) _) | exact HK.out)⟩, ⟨by repeat (first | (with_reducible first | exact HB.out | apply below_alloc | apply pw_below_drewN | apply below_drew1 | refine below_set ?_ GE101.out) | exact HB.out)⟩⟩
          case round =>
            clear H'
            try clear c1
            try clear p1
            try clear q1
            try clear hx1
            try clear p2
            try clear c5
            try clear p6
            try clear c7
            try clear c7b0
            try clear c8
            try clear c8b0
            try clear c9
            try clear c9b0
            try clear p10
            try clear q10
            try clear hx10
            try clear hf10
            try clear hcz11_0
            try clear hcz11_1
            try clear hcz15_0
            try clear hcz15_1
            try clear hcz6_0
            try clear hcz6_1
            try clear hfz11_0
            try clear hfz11_1
            try clear hfz15_0
            try clear hfz15_1
            try clear hfz6_0
            try clear hfz6_1
            try clear hx10_0
            try clear p10
            try clear p2
            try clear q10
            obtain ⟨x0_2, x9_2, rfl, HA, HK2, HO_0, BK101, HK, HB⟩ := hrel
            cases gk with
            | zero => exact absurd HA.out (by simp [hunk_show.l1])
            | succ k2 =>
              have H := HA.out
              clear HA
              simp only [hunk_show.l1] at H
              by_cases c16 : x9_2 ≥ 0
              · rw [if_pos c16] at H
                have c16b0 : decide (0 ≤ x9_2) = true := decide_eq_true c16
                clear c16
                (first | rw [c16b0] | (simp only [i64_w, i32_w]; rw [c16b0]) | skip)
                by_cases c17 : x9_2 ≥ (wrap64 (a2_0 - a3))
                · rw [if_pos c17] at H
                  have c17b0 : decide ((wrap64 (a2_0 - a3)) ≤ x9_2) = true := decide_eq_true c17
                  clear c17
                  by_cases c18 : 0 ≤ x9_2
                  · rw [if_pos c18] at H
                    have c18b0 : decide (0 ≤ x9_2) = true := decide_eq_true c18
                    clear c18
                    by_cases c19 : x9_2 < (l1.length : Int)
                    · rw [if_pos c19] at H
                      have c19b0 : decide (x9_2 < (l1.length : Int)) = true := decide_eq_true c19
                      clear c19
                      replace H := Option.bind_eq_some_iff.mp H
                      obtain ⟨t104, A200, H⟩ := H
                      replace H : (if t104 = true then (hunk_show.j2 k2 x0_2 l1 a3 a2_0 a2_1) else (if x9_2 < (x0_2.length : Int) then (hunk_show.l1 k2 (x0_2.set (x9_2 : Int).toNat true) l1 a3 (wrap64 (x9_2 - 1)) a2_0 a2_1) else (none))) = some r := H
                      have A20 := Aside0.mk A200
                      clear A200
                      by_cases c21 : t104 = true
                      · subst c21
                        have H1 : (hunk_show.j2 k2 x0_2 l1 a3 a2_0 a2_1) = some r := by rw [if_pos rfl] at H; exact H
                        clear H
                        have H := H1
                        clear H1
                        have H' := Aside0.mk H
                        clear H
                        have hcz22_0 : wr.cell? ⟨gb101, 0, none⟩ = some (.int .i64 a2_0) := (blk_cell BK101.out 0).trans rfl
                        have hcz22_1 : wr.cell? ⟨gb101, 1, none⟩ = some (.int .i64 a2_1) := (blk_cell BK101.out 1).trans rfl
                        have hfz22_0 := blk_frozen BK101.out 0
                        have hfz22_1 := blk_frozen BK101.out 1
                        have p103 : 0 ≤ (x9_2 : Int) := of_decide_eq_true (by first | (with_reducible assumption) | assumption)
                        have q103 : x9_2 < (l1.length : Int) := of_decide_eq_true (by first | (with_reducible assumption) | assumption)
                        obtain ⟨ad103, e103, hx103_0, hx103_1⟩ := at_T57 (Kd.C_kept_now HR1.out HK.out) x9_2 p103 q103
                        cases e103
                        replace p103 := eq_true p103
                        replace q103 := eq_true q103
                        go_wp2_with (first | (go_at_call 84; (with_reducible refine (hunk_marked.calls ((rd_T57 l1 x9_2).f0) ((rd_T57 l1 x9_2).f1) true _ A20.out).mono ?_); rintro e w23 ⟨rfl, hb⟩; have n0_ := Aside0.mk (Kd.R_below (by (with_reducible repeat (first | apply Kd.R_alloc | apply Kd.R_drewN | apply Kd.R_drew)); exact HO_0.out) hb); have n1_ := Aside0.mk (blk_below (g := gb101) (o := .cells #[.int .i64 a2_0, .int .i64 a2_1] 45 (0, 0)) (by (with_reducible repeat (first | refine blk_drewN ?_ _ | refine blk_drew ?_ | refine blk_alloc ?_ _)); exact BK101.out) hb); have n2_ := Aside0.mk (Kept.below (S := (fun k_ => P0_ k_)) (by repeat (first | (with_reducible first | exact HK.out | apply Kept.alloc | apply Kept.drewN | apply Kept.drew | refine Kept.setCell ?_ (.inr GW101.out) _) | exact HK.out)) hb); have n3_ := Aside0.mk (below_step (by repeat (first | (with_reducible first | exact HB.out | apply below_alloc | apply pw_below_drewN | apply below_drew1 | refine below_set ?_ GE101.out) | exact HB.out)) hb); clear HO_0; clear BK101; clear HK; clear HB; have HO_0 := n0_; have BK101 := n1_; have HK := n2_; have HB := n3_; clear n0_ n1_ n2_ n3_; (try clear hb); (try clear hb2); (try clear hk); (try clear hi)))
                        go_meet
                        case rel => exact ⟨_, (x0_2), H', ⟨by have := HK1.out; have := HK2.out; first | omega | exact Nat.le_refl _⟩, ⟨by (with_reducible repeat (first | apply Kd.R_alloc | apply Kd.R_drewN | apply Kd.R_drew)); exact HO_0.out⟩, ⟨by (with_reducible repeat (first | refine blk_drewN ?_ _ | refine blk_drew ?_ | refine blk_alloc ?_ _)); exact BK101.out⟩, ⟨by repeat (first | (with_reducible first | exact HK.out | apply Kept.alloc | apply Kept.drewN | apply Kept.drew | refine Kept.setCell ?_ (.inr GW101.out) _) | exact HK.out)⟩, ⟨by repeat (first | (with_reducible first | exact HB.out | apply below_alloc | apply pw_below_drewN | apply below_drew1 | refine below_set ?_ GE101.out) | exact HB.out)⟩⟩
                      · replace c21 := Bool.eq_false_iff.mpr c21
                        subst c21
                        have H1 : (if x9_2 < (x0_2.length : Int) then (hunk_show.l1 k2 (x0_2.set (x9_2 : Int).toNat true) l1 a3 (wrap64 (x9_2 - 1)) a2_0 a2_1) else (none)) = some r := by rw [if_neg (show ¬ (false = true) by decide)] at H; exact H
                        clear H
                        have H := H1
                        clear H1
                        by_cases c24 : x9_2 < (x0_2.length : Int)
                        · rw [if_pos c24] at H
                          have c24b0 : decide (x9_2 < (x0_2.length : Int)) = true := decide_eq_true c24
                          clear c24
                          obtain ⟨y105, hy105⟩ : ∃ y_ : List Bool, y_ = (x0_2.set (x9_2 : Int).toNat true) := ⟨_, rfl⟩
                          replace H : (hunk_show.l1 k2 y105 l1 a3 (wrap64 (x9_2 - 1)) a2_0 a2_1) = some r := by first | (rw [hy105]; with_reducible exact H) | (have H2_ := (Option.bind_some _ _).symm.trans H; rw [hy105]; with_reducible exact H2_) | (have H2_ := (Option.bind_some _ _).symm.trans H; with_reducible exact H2_) | with_reducible exact H | (rw [hy105]; exact H) | exact H
                          have Ny105 := Aside0.mk hy105
                          clear hy105
                          have H' := Aside0.mk H
                          clear H
                          have hcz26_0 : wr.cell? ⟨gb101, 0, none⟩ = some (.int .i64 a2_0) := (blk_cell BK101.out 0).trans rfl
                          have hcz26_1 : wr.cell? ⟨gb101, 1, none⟩ = some (.int .i64 a2_1) := (blk_cell BK101.out 1).trans rfl
                          have hfz26_0 := blk_frozen BK101.out 0
                          have hfz26_1 := blk_frozen BK101.out 1
                          have p103 : 0 ≤ (x9_2 : Int) := of_decide_eq_true (by first | (with_reducible assumption) | assumption)
                          have q103 : x9_2 < (l1.length : Int) := of_decide_eq_true (by first | (with_reducible assumption) | assumption)
                          obtain ⟨ad103, e103, hx103_0, hx103_1⟩ := at_T57 (Kd.C_kept_now HR1.out HK.out) x9_2 p103 q103
                          cases e103
                          replace p103 := eq_true p103
                          replace q103 := eq_true q103
                          go_wp2_with (first | (go_at_call 84; (with_reducible refine (hunk_marked.calls ((rd_T57 l1 x9_2).f0) ((rd_T57 l1 x9_2).f1) false _ A20.out).mono ?_); rintro e w27 ⟨rfl, hb⟩; have n0_ := Aside0.mk (Kd.R_below (by (with_reducible repeat (first | apply Kd.R_alloc | apply Kd.R_drewN | apply Kd.R_drew)); exact HO_0.out) hb); have n1_ := Aside0.mk (blk_below (g := gb101) (o := .cells #[.int .i64 a2_0, .int .i64 a2_1] 45 (0, 0)) (by (with_reducible repeat (first | refine blk_drewN ?_ _ | refine blk_drew ?_ | refine blk_alloc ?_ _)); exact BK101.out) hb); have n2_ := Aside0.mk (Kept.below (S := (fun k_ => P0_ k_)) (by repeat (first | (with_reducible first | exact HK.out | apply Kept.alloc | apply Kept.drewN | apply Kept.drew | refine Kept.setCell ?_ (.inr GW101.out) _) | exact HK.out)) hb); have n3_ := Aside0.mk (below_step (by repeat (first | (with_reducible first | exact HB.out | apply below_alloc | apply pw_below_drewN | apply below_drew1 | refine below_set ?_ GE101.out) | exact HB.out)) hb); clear HO_0; clear BK101; clear HK; clear HB; have HO_0 := n0_; have BK101 := n1_; have HK := n2_; have HB := n3_; clear n0_ n1_ n2_ n3_; (try clear hb); (try clear hb2); (try clear hk); (try clear hi); have p25 : 0 ≤ (x9_2 : Int) := of_decide_eq_true (by first | (with_reducible assumption) | assumption); have q25 : (x9_2 : Int) < ((x0_2.length : Int) : Int) := of_decide_eq_true (by first | (with_reducible assumption) | assumption); obtain ⟨go25, co25, eo25, gb25, gl25, cl25, HG25⟩ := Kd.R_form HO_0.out (by omega); (first | cases eo25 | (injection eo25 with ea_ en_ ec_; (first | subst ea_ | (injection ea_ with ea_; subst ea_)); subst ec_; clear en_)); have GB25 := Aside0.mk gb25; have GG25 := Aside0.mk HG25; clear gb25 gl25 HG25; have HMgo25 := Aside0.mk (show (P0_ go25 ∨ w.heap.size ≤ go25) from (HO_0.out.1 _ rfl)); obtain ⟨hx25_0, hf25_0⟩ := Kd.R_celln false HO_0.out (x9_2 : Int) p25 q25; replace p25 := eq_true p25; replace q25 := eq_true q25; obtain ⟨hy28_, hz28_⟩ := Kd.R_celln false HO_0.out (x9_2 : Int) (of_decide_eq_true (by first | (with_reducible assumption) | assumption)) (of_decide_eq_true (by first | (with_reducible assumption) | assumption)); have HP28 := Kd.R_putg HO_0.out (x9_2 : Int) true) | ((with_reducible refine gate_store (t := 4) (p := 47) rfl ?_); refine store_event (t := 4) (p := 47) (v := ?vo_w29) (w1 := (w27.setCell ⟨go25, (x9_2 : Int).toNat, none⟩ (.bool true))) ?hg ?ho ?hn ?hr ?_; (case ho => rfl); (case hg => rfl); (case hn => rfl); (case hr => first | (go_simp; done) | (go_simp; rfl)); intro w29 hw; have hg : w27.grownBy w29 (some go25) := (by rw [hw]; exact HP28.2); have hp_ : Kd.R Kd.bool 4 w29 w0.heap.size (fun k_ => (P0_ k_ ∨ w.heap.size ≤ k_)) (.slice (some ⟨go25, 0, none⟩) x0_2.length co25) y105 := (by rw [hw, Ny105.out]; exact HP28.1); clear HP28; have n0_ := Aside0.mk (hp_); have n1_ := Aside0.mk (blk_grown (g := gb101) (o := .cells #[.int .i64 a2_0, .int .i64 a2_1] 45 (0, 0)) (by (with_reducible repeat (first | refine blk_drewN ?_ _ | refine blk_drew ?_ | refine blk_alloc ?_ _)); exact BK101.out) hg (Kd.R_ne HO_0.out BK101.out (by decide))); have n2_ := Aside0.mk ((by rw [hw]; exact below_set (HB.out) GB25.out : Below w0.heap.size w0 w29)); have n3_ := Aside0.mk (Kept.of_grown (S := (fun k_ => P0_ k_)) hg (by repeat (first | (with_reducible first | exact HK.out | apply Kept.alloc | apply Kept.drewN | apply Kept.drew | refine Kept.setCell ?_ (.inr GW101.out) _) | exact HK.out)) (fun k_ e_ => (HO_0.out.1 k_ e_))); clear HO_0; clear BK101; clear HB; clear HK; have HO_0 := n0_; have BK101 := n1_; have HB := n2_; have HK := n3_; clear n0_ n1_ n2_ n3_; clear hg hw hp_))
                          go_roundg k2
                          case measure => have := HK1.out; have := HK2.out; omega
                          case rel => exact ⟨(y105), (wrap64 (x9_2 - 1)), (by first | rfl | (simp; done) | (simp [*]; done)), H', ⟨by have := HK1.out; have := HK2.out; omega⟩, ⟨by (with_reducible repeat (first | apply Kd.R_alloc | apply Kd.R_drewN | apply Kd.R_drew)); exact HO_0.out⟩, ⟨by (with_reducible repeat (first | refine blk_drewN ?_ _ | refine blk_drew ?_ | refine blk_alloc ?_ _)); exact BK101.out⟩, ⟨by repeat (first | (with_reducible first | exact HK.out | apply Kept.alloc | apply Kept.drewN | apply Kept.drew | refine Kept.setCell ?_ (.inr GW101.out) _) | exact HK.out)⟩, ⟨by repeat (first | (with_reducible first | exact HB.out | apply below_alloc | apply pw_below_drewN | apply below_drew1 | refine below_set ?_ GE101.out) | exact HB.out)⟩⟩
                        · rw [if_neg c24] at H
                          exact absurd H (by simp)
                    · rw [if_neg c19] at H
                      exact absurd H (by simp)
                  · rw [if_neg c18] at H
                    exact absurd H (by simp)
                · rw [if_neg c17] at H
                  have c17b0 : decide ((wrap64 (a2_0 - a3)) ≤ x9_2) = false := decide_eq_false c17
                  clear c17
                  have H' := Aside0.mk H
                  clear H
                  have hcz30_0 : wr.cell? ⟨gb101, 0, none⟩ = some (.int .i64 a2_0) := (blk_cell BK101.out 0).trans rfl
                  have hcz30_1 : wr.cell? ⟨gb101, 1, none⟩ = some (.int .i64 a2_1) := (blk_cell BK101.out 1).trans rfl
                  have hfz30_0 := blk_frozen BK101.out 0
                  have hfz30_1 := blk_frozen BK101.out 1
                  go_wp2
                  go_meet
                  case rel => exact ⟨_, (x0_2), H', ⟨by have := HK1.out; have := HK2.out; first | omega | exact Nat.le_refl _⟩, ⟨by (with_reducible repeat (first | apply Kd.R_alloc | apply Kd.R_drewN | apply Kd.R_drew)); exact HO_0.out⟩, ⟨by (with_reducible repeat (first | refine blk_drewN ?_ _ | refine blk_drew ?_ | refine blk_alloc ?_ _)); exact BK101.out⟩, ⟨by repeat (first | (with_reducible first | exact HK.out | apply Kept.alloc | apply Kept.drewN | apply Kept.drew | refine Kept.setCell ?_ (.inr GW101.out) _) | exact HK.out)⟩, ⟨by repeat (first | (with_reducible first | exact HB.out | apply below_alloc | apply pw_below_drewN | apply below_drew1 | refine below_set ?_ GE101.out) | exact HB.out)⟩⟩
              · rw [if_neg c16] at H
                have c16b0 : decide (0 ≤ x9_2) = false := decide_eq_false c16
                clear c16
                (first | rw [c16b0] | (simp only [i64_w, i32_w]; rw [c16b0]) | skip)
                have H' := Aside0.mk H
                clear H
                go_wp2
                go_meet
                case rel => exact ⟨_, (x0_2), H', ⟨by have := HK1.out; have := HK2.out; first | omega | exact Nat.le_refl _⟩, ⟨by (with_reducible repeat (first | apply Kd.R_alloc | apply Kd.R_drewN | apply Kd.R_drew)); exact HO_0.out⟩, ⟨by (with_reducible repeat (first | refine blk_drewN ?_ _ | refine blk_drew ?_ | refine blk_alloc ?_ _)); exact BK101.out⟩, ⟨by repeat (first | (with_reducible first | exact HK.out | apply Kept.alloc | apply Kept.drewN | apply Kept.drew | refine Kept.setCell ?_ (.inr GW101.out) _) | exact HK.out)⟩, ⟨by repeat (first | (with_reducible first | exact HB.out | apply below_alloc | apply pw_below_drewN | apply below_drew1 | refine below_set ?_ GE101.out) | exact HB.out)⟩⟩
        case rest =>
          clear HC14
          try clear c1
          try clear p1
          try clear q1
          try clear hx1
          try clear c2
          try clear p2
          try clear q2
          try clear hx2
          try clear c5
          try clear p6
          try clear c7
          try clear c7b0
          try clear c8
          try clear c8b0
          try clear c9
          try clear c9b0
          try clear p10
          try clear q10
          try clear hx10
          try clear hf10
          try clear c16
          try clear c16b0
          try clear c17
          try clear c17b0
          try clear c18
          try clear c18b0
          try clear c19
          try clear c19b0
          try clear c21
          try clear c24
          try clear c24b0
          try clear p25
          try clear q25
          try clear hx25
          try clear hf25
          try clear hcz11_0
          try clear hcz11_1
          try clear hcz15_0
          try clear hcz15_1
          try clear hcz22_0
          try clear hcz22_1
          try clear hcz26_0
          try clear hcz26_1
          try clear hcz30_0
          try clear hcz30_1
          try clear hcz6_0
          try clear hcz6_1
          try clear hfz11_0
          try clear hfz11_1
          try clear hfz15_0
          try clear hfz15_1
          try clear hfz22_0
          try clear hfz22_1
          try clear hfz26_0
          try clear hfz26_1
          try clear hfz30_0
          try clear hfz30_1
          try clear hfz6_0
          try clear hfz6_1
          try clear hx103_0
          try clear hx103_1
          try clear hx10_0
          try clear hx25_0
          try clear p1
          try clear p10
          try clear p103
          try clear p2
          try clear p25
          try clear p6
          try clear q1
          try clear q10
          try clear q103
          try clear q25
          obtain ⟨kq, x0_13, HA, HJ13, HO_0, BK101, HK, HB⟩ := hcut
          cases kq with
          | zero => exact absurd HA.out (by simp [hunk_show.j2])
          | succ kj13 =>
            have H := HA.out
            clear HA
            simp only [hunk_show.j2] at H
            have H' := Aside0.mk H
            clear H
            have hcz31_0 : wc.cell? ⟨gb101, 0, none⟩ = some (.int .i64 a2_0) := (blk_cell BK101.out 0).trans rfl
            have hcz31_1 : wc.cell? ⟨gb101, 1, none⟩ = some (.int .i64 a2_1) := (blk_cell BK101.out 1).trans rfl
            have hfz31_0 := blk_frozen BK101.out 0
            have hfz31_1 := blk_frozen BK101.out 1
            go_wp2
            go_loopg [10] kj13 (fun kq v10 w' => ∃ (x0_3 : List Bool) (x10_3 : Int), v10 = .int .i64 x10_3 ∧ Aside0 (hunk_show.l2 kq x0_3 l1 a3 x10_3 a2_0 a2_1 = some r) ∧ Aside0 (kq ≤ kj13) ∧ Aside0 (Kd.R Kd.bool 4 w' w0.heap.size (fun k_ => (P0_ k_ ∨ w.heap.size ≤ k_)) u9000_ x0_3) ∧ Aside0 (w'.heap[gb101]? = some (.cells #[.int .i64 a2_0, .int .i64 a2_1] 45 (0, 0))) ∧ Aside0 (Kept w w' (fun k_ => P0_ k_)) ∧ Aside0 (Below w0.heap.size w0 w'))
            case atStart => exact ⟨(x0_13), (a2_1), (by first | rfl | (simp; done) | (simp [*]; done)), H', ⟨Nat.le_refl _⟩, ⟨by (with_reducible repeat (first | apply Kd.R_alloc | apply Kd.R_drewN | apply Kd.R_drew)); exact HO_0.out⟩, ⟨by (with_reducible repeat (first | refine blk_drewN ?_ _ | refine blk_drew ?_ | refine blk_alloc ?_ _)); exact BK101.out⟩, ⟨by repeat (first | (with_reducible first | exact HK.out | apply Kept.alloc | apply Kept.drewN | apply Kept.drew | refine Kept.setCell ?_ (.inr GW101.out) _) | exact HK.out)⟩, ⟨by repeat (first | (with_reducible first | exact HB.out | apply below_alloc | apply pw_below_drewN | apply below_drew1 | refine below_set ?_ GE101.out) | exact HB.out)⟩⟩
            case round =>
              clear H'
              try clear c1
              try clear p1
              try clear q1
              try clear hx1
              try clear c2
              try clear p2
              try clear q2
              try clear hx2
              try clear c5
              try clear p6
              try clear c7
              try clear c7b0
              try clear c8
              try clear c8b0
              try clear c9
              try clear c9b0
              try clear p10
              try clear q10
              try clear hx10
              try clear hf10
              try clear c16
              try clear c16b0
              try clear c17
              try clear c17b0
              try clear c18
              try clear c18b0
              try clear c19
              try clear c19b0
              try clear c21
              try clear c24
              try clear c24b0
              try clear p25
              try clear q25
              try clear hx25
              try clear hf25
              try clear hcz11_0
              try clear hcz11_1
              try clear hcz15_0
              try clear hcz15_1
              try clear hcz22_0
              try clear hcz22_1
              try clear hcz26_0
              try clear hcz26_1
              try clear hcz30_0
              try clear hcz30_1
              try clear hcz31_0
              try clear hcz31_1
              try clear hcz6_0
              try clear hcz6_1
              try clear hfz11_0
              try clear hfz11_1
              try clear hfz15_0
              try clear hfz15_1
              try clear hfz22_0
              try clear hfz22_1
              try clear hfz26_0
              try clear hfz26_1
              try clear hfz30_0
              try clear hfz30_1
              try clear hfz31_0
              try clear hfz31_1
              try clear hfz6_0
              try clear hfz6_1
              try clear hx103_0
              try clear hx103_1
              try clear hx10_0
              try clear hx25_0
              try clear p1
              try clear p10
              try clear p103
              try clear p2
              try clear p25
              try clear p6
              try clear q1
              try clear q10
              try clear q103
              try clear q2
              try clear q25
              obtain ⟨x0_3, x10_3, rfl, HA, HK3, HO_0, BK101, HK, HB⟩ := hrel
              cases gk with
              | zero => exact absurd HA.out (by simp [hunk_show.l2])
              | succ k3 =>
                have H := HA.out
                clear HA
                simp only [hunk_show.l2] at H
                by_cases c32 : x10_3 < (l1.length : Int)
                · rw [if_pos c32] at H
                  have c32b0 : decide (x10_3 < (l1.length : Int)) = true := decide_eq_true c32
                  clear c32
                  by_cases c33 : x10_3 < (wrap64 (a2_1 + a3))
                  · rw [if_pos c33] at H
                    have c33b0 : decide (x10_3 < (wrap64 (a2_1 + a3))) = true := decide_eq_true c33
                    clear c33
                    by_cases c34 : 0 ≤ x10_3
                    · rw [if_pos c34] at H
                      have c34b0 : decide (0 ≤ x10_3) = true := decide_eq_true c34
                      clear c34
                      replace H := Option.bind_eq_some_iff.mp H
                      obtain ⟨t107, A350, H⟩ := H
                      replace H : (if t107 = true then (some x0_3) else (if x10_3 < (x0_3.length : Int) then (hunk_show.l2 k3 (x0_3.set (x10_3 : Int).toNat true) l1 a3 (wrap64 (x10_3 + 1)) a2_0 a2_1) else (none))) = some r := H
                      have A35 := Aside0.mk A350
                      clear A350
                      by_cases c36 : t107 = true
                      · subst c36
                        have H1 : (some x0_3) = some r := by rw [if_pos rfl] at H; exact H
                        clear H
                        have H := H1
                        clear H1
                        obtain rfl := Option.some.inj H
                        have hcz37_0 : wr.cell? ⟨gb101, 0, none⟩ = some (.int .i64 a2_0) := (blk_cell BK101.out 0).trans rfl
                        have hcz37_1 : wr.cell? ⟨gb101, 1, none⟩ = some (.int .i64 a2_1) := (blk_cell BK101.out 1).trans rfl
                        have hfz37_0 := blk_frozen BK101.out 0
                        have hfz37_1 := blk_frozen BK101.out 1
                        have p106 : 0 ≤ (x10_3 : Int) := of_decide_eq_true (by first | (with_reducible assumption) | assumption)
                        have q106 : x10_3 < (l1.length : Int) := of_decide_eq_true (by first | (with_reducible assumption) | assumption)
                        obtain ⟨ad106, e106, hx106_0, hx106_1⟩ := at_T57 (Kd.C_kept_now HR1.out HK.out) x10_3 p106 q106
                        cases e106
                        replace p106 := eq_true p106
                        replace q106 := eq_true q106
                        go_wp2_with (first | (go_at_call 84; (with_reducible refine (hunk_marked.calls ((rd_T57 l1 x10_3).f0) ((rd_T57 l1 x10_3).f1) true _ A35.out).mono ?_); rintro e w38 ⟨rfl, hb⟩; have n0_ := Aside0.mk (Kd.R_below (by (with_reducible repeat (first | apply Kd.R_alloc | apply Kd.R_drewN | apply Kd.R_drew)); exact HO_0.out) hb); have n1_ := Aside0.mk (blk_below (g := gb101) (o := .cells #[.int .i64 a2_0, .int .i64 a2_1] 45 (0, 0)) (by (with_reducible repeat (first | refine blk_drewN ?_ _ | refine blk_drew ?_ | refine blk_alloc ?_ _)); exact BK101.out) hb); have n2_ := Aside0.mk (Kept.below (S := (fun k_ => P0_ k_)) (by repeat (first | (with_reducible first | exact HK.out | apply Kept.alloc | apply Kept.drewN | apply Kept.drew | refine Kept.setCell ?_ (.inr GW101.out) _) | exact HK.out)) hb); have n3_ := Aside0.mk (below_step (by repeat (first | (with_reducible first | exact HB.out | apply below_alloc | apply pw_below_drewN | apply below_drew1 | refine below_set ?_ GE101.out) | exact HB.out)) hb); clear HO_0; clear BK101; clear HK; clear HB; have HO_0 := n0_; have BK101 := n1_; have HK := n2_; have HB := n3_; clear n0_ n1_ n2_ n3_; (try clear hb); (try clear hb2); (try clear hk); (try clear hi)))
                        first | go_end0 | ((try simp only [Exit.inBlock, Exit.then]); refine bodyPost_ret (results_none rfl _ _ _) rfl ?_)
                        exact ⟨by first | rfl | (simp [errW_none, errW_some] <;> rfl) | (simp [errW_none, errW_some]; done) | (simp [errW_none, errW_some]; cases ByteArray.toList _ <;> rfl) | (simp [*, errW_none, errW_some] <;> rfl), by (with_reducible repeat (first | apply Kd.R_alloc | apply Kd.R_drewN | apply Kd.R_drew)); exact HO_0.out, by repeat (first | (with_reducible first | exact HB.out | apply below_alloc | apply pw_below_drewN | apply below_drew1 | refine below_set ?_ GE101.out) | exact HB.out), by repeat (first | (with_reducible first | exact HK.out | apply Kept.alloc | apply Kept.drewN | apply Kept.drew | refine Kept.setCell ?_ (.inr GW101.out) _) | exact HK.out)⟩
                      · replace c36 := Bool.eq_false_iff.mpr c36
                        subst c36
                        have H1 : (if x10_3 < (x0_3.length : Int) then (hunk_show.l2 k3 (x0_3.set (x10_3 : Int).toNat true) l1 a3 (wrap64 (x10_3 + 1)) a2_0 a2_1) else (none)) = some r := by rw [if_neg (show ¬ (false = true) by decide)] at H; exact H
                        clear H
                        have H := H1
                        clear H1
                        by_cases c39 : x10_3 < (x0_3.length : Int)
                        · rw [if_pos c39] at H
                          have c39b0 : decide (x10_3 < (x0_3.length : Int)) = true := decide_eq_true c39
                          clear c39
                          obtain ⟨y108, hy108⟩ : ∃ y_ : List Bool, y_ = (x0_3.set (x10_3 : Int).toNat true) := ⟨_, rfl⟩
                          replace H : (hunk_show.l2 k3 y108 l1 a3 (wrap64 (x10_3 + 1)) a2_0 a2_1) = some r := by first | (rw [hy108]; with_reducible exact H) | (have H2_ := (Option.bind_some _ _).symm.trans H; rw [hy108]; with_reducible exact H2_) | (have H2_ := (Option.bind_some _ _).symm.trans H; with_reducible exact H2_) | with_reducible exact H | (rw [hy108]; exact H) | exact H
                          have Ny108 := Aside0.mk hy108
                          clear hy108
                          have H' := Aside0.mk H
                          clear H
                          have hcz41_0 : wr.cell? ⟨gb101, 0, none⟩ = some (.int .i64 a2_0) := (blk_cell BK101.out 0).trans rfl
                          have hcz41_1 : wr.cell? ⟨gb101, 1, none⟩ = some (.int .i64 a2_1) := (blk_cell BK101.out 1).trans rfl
                          have hfz41_0 := blk_frozen BK101.out 0
                          have hfz41_1 := blk_frozen BK101.out 1
                          have p106 : 0 ≤ (x10_3 : Int) := of_decide_eq_true (by first | (with_reducible assumption) | assumption)
                          have q106 : x10_3 < (l1.length : Int) := of_decide_eq_true (by first | (with_reducible assumption) | assumption)
                          obtain ⟨ad106, e106, hx106_0, hx106_1⟩ := at_T57 (Kd.C_kept_now HR1.out HK.out) x10_3 p106 q106
                          cases e106
                          replace p106 := eq_true p106
                          replace q106 := eq_true q106
                          go_wp2_with (first | (go_at_call 84; (with_reducible refine (hunk_marked.calls ((rd_T57 l1 x10_3).f0) ((rd_T57 l1 x10_3).f1) false _ A35.out).mono ?_); rintro e w42 ⟨rfl, hb⟩; have n0_ := Aside0.mk (Kd.R_below (by (with_reducible repeat (first | apply Kd.R_alloc | apply Kd.R_drewN | apply Kd.R_drew)); exact HO_0.out) hb); have n1_ := Aside0.mk (blk_below (g := gb101) (o := .cells #[.int .i64 a2_0, .int .i64 a2_1] 45 (0, 0)) (by (with_reducible repeat (first | refine blk_drewN ?_ _ | refine blk_drew ?_ | refine blk_alloc ?_ _)); exact BK101.out) hb); have n2_ := Aside0.mk (Kept.below (S := (fun k_ => P0_ k_)) (by repeat (first | (with_reducible first | exact HK.out | apply Kept.alloc | apply Kept.drewN | apply Kept.drew | refine Kept.setCell ?_ (.inr GW101.out) _) | exact HK.out)) hb); have n3_ := Aside0.mk (below_step (by repeat (first | (with_reducible first | exact HB.out | apply below_alloc | apply pw_below_drewN | apply below_drew1 | refine below_set ?_ GE101.out) | exact HB.out)) hb); clear HO_0; clear BK101; clear HK; clear HB; have HO_0 := n0_; have BK101 := n1_; have HK := n2_; have HB := n3_; clear n0_ n1_ n2_ n3_; (try clear hb); (try clear hb2); (try clear hk); (try clear hi); have p40 : 0 ≤ (x10_3 : Int) := of_decide_eq_true (by first | (with_reducible assumption) | assumption); have q40 : (x10_3 : Int) < ((x0_3.length : Int) : Int) := of_decide_eq_true (by first | (with_reducible assumption) | assumption); obtain ⟨go40, co40, eo40, gb40, gl40, cl40, HG40⟩ := Kd.R_form HO_0.out (by omega); (first | cases eo40 | (injection eo40 with ea_ en_ ec_; (first | subst ea_ | (injection ea_ with ea_; subst ea_)); subst ec_; clear en_)); have GB40 := Aside0.mk gb40; have GG40 := Aside0.mk HG40; clear gb40 gl40 HG40; have HMgo40 := Aside0.mk (show (P0_ go40 ∨ w.heap.size ≤ go40) from (HO_0.out.1 _ rfl)); obtain ⟨hx40_0, hf40_0⟩ := Kd.R_celln false HO_0.out (x10_3 : Int) p40 q40; replace p40 := eq_true p40; replace q40 := eq_true q40; obtain ⟨hy43_, hz43_⟩ := Kd.R_celln false HO_0.out (x10_3 : Int) (of_decide_eq_true (by first | (with_reducible assumption) | assumption)) (of_decide_eq_true (by first | (with_reducible assumption) | assumption)); have HP43 := Kd.R_putg HO_0.out (x10_3 : Int) true) | ((with_reducible refine gate_store (t := 4) (p := 74) rfl ?_); refine store_event (t := 4) (p := 74) (v := ?vo_w44) (w1 := (w42.setCell ⟨go40, (x10_3 : Int).toNat, none⟩ (.bool true))) ?hg ?ho ?hn ?hr ?_; (case ho => rfl); (case hg => rfl); (case hn => rfl); (case hr => first | (go_simp; done) | (go_simp; rfl)); intro w44 hw; have hg : w42.grownBy w44 (some go40) := (by rw [hw]; exact HP43.2); have hp_ : Kd.R Kd.bool 4 w44 w0.heap.size (fun k_ => (P0_ k_ ∨ w.heap.size ≤ k_)) (.slice (some ⟨go40, 0, none⟩) x0_3.length co40) y108 := (by rw [hw, Ny108.out]; exact HP43.1); clear HP43; have n0_ := Aside0.mk (hp_); have n1_ := Aside0.mk (blk_grown (g := gb101) (o := .cells #[.int .i64 a2_0, .int .i64 a2_1] 45 (0, 0)) (by (with_reducible repeat (first | refine blk_drewN ?_ _ | refine blk_drew ?_ | refine blk_alloc ?_ _)); exact BK101.out) hg (Kd.R_ne HO_0.out BK101.out (by decide))); have n2_ := Aside0.mk ((by rw [hw]; exact below_set (HB.out) GB40.out : Below w0.heap.size w0 w44)); have n3_ := Aside0.mk (Kept.of_grown (S := (fun k_ => P0_ k_)) hg (by repeat (first | (with_reducible first | exact HK.out | apply Kept.alloc | apply Kept.drewN | apply Kept.drew | refine Kept.setCell ?_ (.inr GW101.out) _) | exact HK.out)) (fun k_ e_ => (HO_0.out.1 k_ e_))); clear HO_0; clear BK101; clear HB; clear HK; have HO_0 := n0_; have BK101 := n1_; have HB := n2_; have HK := n3_; clear n0_ n1_ n2_ n3_; clear hg hw hp_))
                          go_roundg k3
                          case measure => have := HK1.out; have := HJ13.out; have := HK3.out; omega
                          case rel => exact ⟨(y108), (wrap64 (x10_3 + 1)), (by first | rfl | (simp; done) | (simp [*]; done)), H', ⟨by have := HK1.out; have := HJ13.out; have := HK3.out; omega⟩, ⟨by (with_reducible repeat (first | apply Kd.R_alloc | apply Kd.R_drewN | apply Kd.R_drew)); exact HO_0.out⟩, ⟨by (with_reducible repeat (first | refine blk_drewN ?_ _ | refine blk_drew ?_ | refine blk_alloc ?_ _)); exact BK101.out⟩, ⟨by repeat (first | (with_reducible first | exact HK.out | apply Kept.alloc | apply Kept.drewN | apply Kept.drew | refine Kept.setCell ?_ (.inr GW101.out) _) | exact HK.out)⟩, ⟨by repeat (first | (with_reducible first | exact HB.out | apply below_alloc | apply pw_below_drewN | apply below_drew1 | refine below_set ?_ GE101.out) | exact HB.out)⟩⟩
                        · rw [if_neg c39] at H
                          exact absurd H (by simp)
                    · rw [if_neg c34] at H
                      exact absurd H (by simp)
                  · rw [if_neg c33] at H
                    have c33b0 : decide (x10_3 < (wrap64 (a2_1 + a3))) = false := decide_eq_false c33
                    clear c33
                    obtain rfl := Option.some.inj H
                    have hcz45_0 : wr.cell? ⟨gb101, 0, none⟩ = some (.int .i64 a2_0) := (blk_cell BK101.out 0).trans rfl
                    have hcz45_1 : wr.cell? ⟨gb101, 1, none⟩ = some (.int .i64 a2_1) := (blk_cell BK101.out 1).trans rfl
                    have hfz45_0 := blk_frozen BK101.out 0
                    have hfz45_1 := blk_frozen BK101.out 1
                    go_wp2
                    first | go_end0 | ((try simp only [Exit.inBlock, Exit.then]); refine bodyPost_ret (results_none rfl _ _ _) rfl ?_)
                    exact ⟨by first | rfl | (simp [errW_none, errW_some] <;> rfl) | (simp [errW_none, errW_some]; done) | (simp [errW_none, errW_some]; cases ByteArray.toList _ <;> rfl) | (simp [*, errW_none, errW_some] <;> rfl), by (with_reducible repeat (first | apply Kd.R_alloc | apply Kd.R_drewN | apply Kd.R_drew)); exact HO_0.out, by repeat (first | (with_reducible first | exact HB.out | apply below_alloc | apply pw_below_drewN | apply below_drew1 | refine below_set ?_ GE101.out) | exact HB.out), by repeat (first | (with_reducible first | exact HK.out | apply Kept.alloc | apply Kept.drewN | apply Kept.drew | refine Kept.setCell ?_ (.inr GW101.out) _) | exact HK.out)⟩
                · rw [if_neg c32] at H
                  have c32b0 : decide (x10_3 < (l1.length : Int)) = false := decide_eq_false c32
                  clear c32
                  obtain rfl := Option.some.inj H
                  go_wp2
                  first | go_end0 | ((try simp only [Exit.inBlock, Exit.then]); refine bodyPost_ret (results_none rfl _ _ _) rfl ?_)
                  exact ⟨by first | rfl | (simp [errW_none, errW_some] <;> rfl) | (simp [errW_none, errW_some]; done) | (simp [errW_none, errW_some]; cases ByteArray.toList _ <;> rfl) | (simp [*, errW_none, errW_some] <;> rfl), by (with_reducible repeat (first | apply Kd.R_alloc | apply Kd.R_drewN | apply Kd.R_drew)); exact HO_0.out, by repeat (first | (with_reducible first | exact HB.out | apply below_alloc | apply pw_below_drewN | apply below_drew1 | refine below_set ?_ GE101.out) | exact HB.out), by repeat (first | (with_reducible first | exact HK.out | apply Kept.alloc | apply Kept.drewN | apply Kept.drew | refine Kept.setCell ?_ (.inr GW101.out) _) | exact HK.out)⟩

end Go.Proofs.YthcnfflhejogfaaDoor.X
-- part XHk1
namespace Go.Proofs.YthcnfflhejogfaaDoor.X
open Go.RowKit Go.Proofs.YthcnfflhejogfaaDoorW.PrintWords Go.Proofs.YthcnfflhejogfaaDoorW.PrintLast Go.Proofs.YthcnfflhejogfaaDoorW.PrintMore
set_option linter.unusedVariables false
set_option linter.unusedSimpArgs false
/-- The cell of bytealg.MaxLen holds a number. -/
def MaxAt (w : World) : Prop := 0 < w.heap.size ∧ ∃ m : Int, w.cell? ⟨0, 0, none⟩ = some (.int .i64 m)
theorem MaxAt.below {w W : World} {B : Nat} (h : MaxAt w) (hb : Below B w W) (hB : 0 < B) : MaxAt W := by
  obtain ⟨h0, m, hm⟩ := h
  exact ⟨Nat.lt_of_lt_of_le h0 hb.size, m, by rw [hb.cell (p := ⟨0, 0, none⟩) hB]; exact hm⟩
theorem MaxAt.step {w W : World} (h : MaxAt w) (hb : Below w.heap.size w W) : MaxAt W := h.below hb h.1
theorem MaxAt.alloc {w : World} (h : MaxAt w) (o : Obj) : MaxAt (w.alloc o) := h.step ((Below.refl _ w).alloc (Nat.le_refl _) o)
theorem MaxAt.drew {w : World} (h : MaxAt w) : MaxAt w.drew := h.step (Below.refl _ w).drew
/-- A row's columns with a mark. -/
def colsOf (s : ByteArray) : ByteArray := ⟨(Lib.replaceAll s.data.toList [45] [43]).toArray⟩
theorem replace_marks (s : ByteArray) (w : World) (hm : MaxAt w) (hs : s.size ≤ 1000000) : Calls Tryd.prog 85 #[.string s, .string ⟨#[45]⟩, .string ⟨#[43]⟩] w fun e w' => e = .returned (.string (colsOf s)) ∧ Aside0 (Below w.heap.size w w') := by
  obtain ⟨_, m, hm⟩ := hm
  have hc := Lib.countB_le ⟨#[45]⟩ (by decide) s.size s (Nat.le_refl _)
  refine (Tryd.strings_ReplaceAll s ⟨#[45]⟩ ⟨#[43]⟩ m w (by omega) hm (by decide) ?_).mono fun e w' ⟨h1, h2⟩ => ⟨h1, ⟨h2⟩⟩
  have e1 : (⟨#[43]⟩ : ByteArray).size = 1 := rfl
  rw [e1, Nat.mul_one]
  omega
theorem hunk_columns (x0 x1 : ByteArray) (w : World) (hm : MaxAt w) (hs : x0.size ≤ 1000000) : Calls Tryd.prog 60 #[.agg #[.string x0, .string x1]] w fun e w' => e = .returned (.string (colsOf x0)) ∧ Aside0 (Below w.heap.size w w') := by
  have HM := Aside0.mk hm
  clear hm
  go_enter Tryd.func60, Tryd.ntmps60
  go_wp2_with fail
  refine (replace_marks x0 _ (HM.out.alloc _) hs).mono ?_
  rintro e w1 ⟨rfl, hb⟩
  have HB : Aside0 (Below w.heap.size w w1) := ⟨((Below.refl _ w).alloc (Nat.le_refl _) _).trans (hb.out.mono (by simp))⟩
  clear hb
  go_wp2
  go_ret
  exact ⟨rfl, HB⟩
end Go.Proofs.YthcnfflhejogfaaDoor.X
-- part XHk2
namespace Go.Proofs.YthcnfflhejogfaaDoor.X
open Go.RowKit Go.Proofs.YthcnfflhejogfaaDoorW.PrintWords Go.Proofs.YthcnfflhejogfaaDoorW.PrintLast Go.Proofs.YthcnfflhejogfaaDoorW.PrintMore
set_option linter.unusedVariables false
set_option linter.unusedSimpArgs false
set_option maxRecDepth 100000 in
set_option maxHeartbeats 2000000 in
theorem dull_ask (x0 x1 first : ByteArray) (g : Nat) (w : World) (hm : MaxAt w) (hs : x0.size ≤ 1000000) (hf : w.cell? ⟨g, 0, none⟩ = some (.string first)) :
    Calls Tryd.prog 61 #[.agg #[.string x0, .string x1], .pointer (some ⟨g, 0, none⟩)] w fun e w' => e = .returned (.bool (decide (colsOf x0 ≠ first))) ∧ Aside0 (Below w.heap.size w w') := by
  have hg : g < w.heap.size := World.block_lt_of_cell? w _ hf
  have HM := Aside0.mk hm
  have HF := Aside0.mk hf
  have HG := Aside0.mk hg
  clear hm hf hg
  go_enter Tryd.func61, Tryd.ntmps61
  go_wp2_with fail
  obtain ⟨W1, hW1⟩ : ∃ W1, w.alloc (.cells #[.string x0, .string x1] 57) = W1 := ⟨_, rfl⟩
  have HM1 : Aside0 (MaxAt W1) := ⟨by rw [← hW1]; exact HM.out.alloc _⟩
  have HB1 : Aside0 (Below w.heap.size w W1) := ⟨by rw [← hW1]; exact (Below.refl _ w).alloc (Nat.le_refl _) _⟩
  have hbl : W1.heap[w.heap.size]? = some (.cells #[.string x0, .string x1] 57 (0, 0)) := by rw [← hW1]; exact blk_new _ _
  have yf : W1.cell? ⟨g, 0, none⟩ = some (.string first) := (HB1.out.cell HG.out).trans HF.out
  have y0 : W1.cell? ⟨w.heap.size, 0, none⟩ = some (.string x0) := cell_blk hbl rfl
  have y1 : W1.cell? ⟨w.heap.size, 1, none⟩ = some (.string x1) := cell_blk hbl rfl
  rw [hW1]
  clear hW1 hbl
  refine start_ (n := 5) (S := fun w' => w'.cell? ⟨w.heap.size, 0, none⟩ = some (.string x0) ∧ w'.cell? ⟨w.heap.size, 1, none⟩ = some (.string x1) ∧ w'.cell? ⟨g, 0, none⟩ = some (.string first)) (ds := []) #[false, false, false, false, false] (by kernel_rfl) rfl rfl ⟨y0, y1, yf⟩ (fun hHeld => ?_)
  refine take_ (i := 0) (N := some 4) (v := ?_) (a' := ?_) #[true, false, false, false, false] rfl rfl (by kernel_rfl) (fun _ _ _ h => h) (Or.inl ⟨by rfl, ?_⟩) hHeld ?_ ?_
  rotate_left
  · rintro w' ⟨s0, s1, s2⟩
    go_simp
    with_reducible rfl
  rotate_left
  · simp only [Act.put, List.setIfInBounds_toArray, List.set_cons_zero, List.set_cons_succ, i64_w, i32_w]
    rfl
  refine take_ (i := 2) (N := some 6) (v := ?_) (a' := ?_) #[true, false, true, false, false] rfl rfl (by kernel_rfl) (fun _ _ _ h => h) (Or.inl ⟨by rfl, ?_⟩) hHeld ?_ ?_
  rotate_left
  · rintro w' ⟨s0, s1, s2⟩
    go_simp
    with_reducible rfl
  rotate_left
  · simp only [Act.put, List.setIfInBounds_toArray, List.set_cons_zero, List.set_cons_succ, i64_w, i32_w]
    rfl
  refine one_ (i := 1) (N := some 5) #[true, true, true, false, false] rfl rfl (by kernel_rfl) (by decide) (fun K hK => ?_)
  refine goes_ Tryd.func60 (by kernel_rfl) rfl #[.agg #[.string x0, .string x1]] (by rfl) rfl rfl (by simp only [List.map_toArray, List.map_cons, List.map_nil]; rfl) ?_
  with_reducible refine (hunk_columns x0 x1 W1.drew HM1.out.drew hs).mono ?_
  rintro e w2 ⟨rfl, HB2⟩
  refine ⟨_, rfl, ?_⟩
  have z0 : w2.cell? ⟨w.heap.size, 0, none⟩ = some (.string x0) := (HB2.out.cell (World.block_lt_of_cell? W1 _ y0)).trans y0
  have z1 : w2.cell? ⟨w.heap.size, 1, none⟩ = some (.string x1) := (HB2.out.cell (World.block_lt_of_cell? W1 _ y1)).trans y1
  have zf : w2.cell? ⟨g, 0, none⟩ = some (.string first) := (HB2.out.cell (World.block_lt_of_cell? W1 _ yf)).trans yf
  have HW2 : Aside0 (Below w.heap.size w w2) := ⟨HB1.out.drew.trans (HB2.out.mono HB1.out.size)⟩
  clear HB2
  refine hK.out _ _ ⟨z0, z1, zf⟩ (fun hHeld => ?_)
  clear hK K
  refine norm_ (a' := ?_) ?_ ?_
  rotate_left
  · show Act.put _ (some 5) _ = _
    simp only [Act.put, List.setIfInBounds_toArray, List.set_cons_zero, List.set_cons_succ, i64_w, i32_w]
    rfl
  refine pure_ (i := 3) (N := some 7) (v := ?_) (a' := ?_) #[true, true, true, true, false] rfl rfl (by kernel_rfl) (fun _ _ _ h => h) (Or.inl ⟨by rfl, ?_⟩) ?_ ?_
  rotate_left
  · intro w'
    go_simp
    with_reducible rfl
  rotate_left
  · simp only [Act.put, List.setIfInBounds_toArray, List.set_cons_zero, List.set_cons_succ, i64_w, i32_w]
    rfl
  refine pure_ (i := 4) (N := some 3) (v := ?_) (a' := ?_) #[true, true, true, true, true] rfl rfl (by kernel_rfl) (fun _ _ _ h => h) (Or.inl ⟨by rfl, ?_⟩) ?_ ?_
  rotate_left
  · intro w'
    go_simp
    with_reducible rfl
  rotate_left
  · simp only [Act.put, List.setIfInBounds_toArray, List.set_cons_zero, List.set_cons_succ, i64_w, i32_w]
    rfl
  refine done_ (by kernel_rfl) ?_

  clear y0 y1 yf z0 z1 zf
  go_wp2
  go_ret
  exact ⟨by simp [← strBeq], HW2⟩
/-- The first place where p holds; -1: none. -/
def findI {α : Type} (p : α → Bool) (L : List α) : Int := match L.findIdx? p with | some i => (i : Int) | none => -1
section
variable {α : Type} {p : α → Bool} {L : List α}
theorem findI_go {k : Nat} (hk : k < L.length) (h : ∀ l ∈ L.take k, p l = false) (hp : p L[k] = true) : findI p L = (k : Int) := by
  have : L.findIdx? p = some k := by
    rw [List.findIdx?_eq_some_iff_getElem]
    exact ⟨hk, hp, fun j hj => by
      have : L[j] ∈ L.take k := by
        rw [List.mem_take_iff_getElem]; exact ⟨j, by omega, rfl⟩
      rw [h _ this]; decide⟩
  rw [findI, this]
theorem findI_none (h : ∀ l ∈ L, p l = false) : findI p L = -1 := by
  have : L.findIdx? p = none := List.findIdx?_eq_none_iff.2 (fun x hx => h x hx)
  rw [findI, this]
theorem findI_any : L.any p = decide (0 ≤ findI p L) := by
  rw [findI]
  cases h : L.findIdx? p with
  | none =>
    have := List.findIdx?_eq_none_iff.1 h
    show _ = false
    rw [List.any_eq_false]
    exact fun x hx => by rw [this x hx]; decide
  | some i =>
    obtain ⟨hi, h1, _⟩ := List.findIdx?_eq_some_iff_getElem.1 h
    have : decide ((0 : Int) ≤ (i : Int)) = true := decide_eq_true (by omega)
    show _ = decide ((0 : Int) ≤ (i : Int))
    rw [this, List.any_eq_true]
    exact ⟨_, List.getElem_mem hi, h1⟩
end
abbrev Row57 := S57
/-- Has a row marks in other columns than the first? -/
def otherB (first : ByteArray) (x : Row57) : Bool := !decide (colsOf x.f0 = first)
set_option maxRecDepth 100000 in
set_option maxHeartbeats 2000000 in
theorem dull_index (g : Nat) (first : ByteArray) (A : Option Addr) (c : Nat) (L : List Row57) (w : World) (hm : MaxAt w) (hf : w.cell? ⟨g, 0, none⟩ = some (.string first)) (hC : Kd.C k57 w A L.length L) (hc : L.length ≤ c) (hL : L.length ≤ 1000000) (hz : ∀ x ∈ L, x.f0.size ≤ 1000000) :
    Calls Tryd.prog 87 #[.slice A L.length c, .func (.func 61) #[] #[.pointer (some ⟨g, 0, none⟩)]] w fun e w' => e = .returned (.int .i64 (findI (otherB first) L)) ∧ Aside0 (Below w.heap.size w w') := by
  have HC := Aside0.mk hC
  have HM := Aside0.mk hm
  have HF0 := Aside0.mk hf
  have HZ := Aside0.mk hz
  have HG : Aside0 (g < w.heap.size) := ⟨World.block_lt_of_cell? w _ hf⟩
  clear hC hm hf hz
  obtain ⟨R, hR⟩ : ∃ R, findI (otherB first) L = R := ⟨_, rfl⟩
  have HR := Aside0.mk hR
  rw [hR]
  clear hR
  go_enter Tryd.func87, Tryd.ntmps87
  go_wp2_with fail
  go_loopw [8, 5] (fun i _ wr => ∃ (k : Nat), k ≤ L.length ∧ i = .int .i64 k ∧ Aside0 (∀ l ∈ L.take k, otherB first l = false) ∧ Aside0 (Below w.heap.size w wr)) (fun i _ _ => L.length - (intOf i).toNat)
  case atStart => exact ⟨0, Nat.zero_le _, rfl, ⟨by simp⟩, ⟨Below.refl _ _⟩⟩
  case round =>
    obtain ⟨k, hk, rfl, HF, HB⟩ := hrel
    by_cases hlt : k < L.length
    · obtain ⟨ad, rfl, x0, x1⟩ := at_T57 HC.out (k : Int) (by omega) (by omega)
      have hx : rd_T57 L (k : Int) = L[k] := getN hlt
      have hxs := HZ.out _ (List.getElem_mem hlt)
      obtain ⟨x, hxe⟩ : ∃ x, L[k] = x := ⟨_, rfl⟩
      rw [hx, hxe] at x0 x1
      rw [hxe] at hxs
      have HLK := Aside0.mk hxe
      have HXS := Aside0.mk hxs
      clear hx hxe hxs
      replace x0 := (HB.out.cell (World.block_lt_of_cell? w _ x0)).trans x0
      replace x1 := (HB.out.cell (World.block_lt_of_cell? w _ x1)).trans x1
      have kk : (k : Int).toNat = k := by omega
      rw [kk] at x0 x1
      clear kk
      have HFW : Aside0 (wr.cell? ⟨g, 0, none⟩ = some (.string first)) := ⟨(HB.out.cell HG.out).trans HF0.out⟩
      obtain ⟨q, hq⟩ : ∃ q, decide (colsOf x.f0 ≠ first) = q := ⟨_, rfl⟩
      have hq2 : otherB first x = q := by rw [← hq, otherB]; simp
      have HQ := Aside0.mk hq
      have HQ2 := Aside0.mk hq2
      clear hq hq2
      go_wp2_with fail
      refine (dull_ask x.f0 x.f1 first g wr (HM.out.step HB.out) HXS.out HFW.out).mono ?_
      rintro e w1 ⟨rfl, hb1⟩
      have HB1 : Aside0 (Below w.heap.size w w1) := ⟨HB.out.trans (hb1.out.mono HB.out.size)⟩
      rw [HQ.out]
      clear hb1
      cases q with
      | false =>
        go_wp2
        go_roundw
        case measure => simp [intOf]; omega
        case rel => exact ⟨k + 1, by omega, by go_num, ⟨fun x hx => by
          rw [← List.take_append_getElem hlt] at hx
          rcases List.mem_append.1 hx with hx | hx
          · exact HF.out x hx
          · rw [List.mem_singleton.1 hx, HLK.out]; exact HQ2.out⟩, HB1⟩
      | true =>
        have HFK : Aside0 (R = (k : Int)) := ⟨HR.out.symm.trans (findI_go hlt HF.out (by rw [HLK.out]; exact HQ2.out))⟩
        go_wp2
        go_ret
        exact ⟨by rw [HFK.out]; rfl, HB1⟩
    · have hk' : k = L.length := by omega
      subst hk'
      rw [List.take_length] at HF
      have HFN : Aside0 (R = -1) := ⟨HR.out.symm.trans (findI_none HF.out)⟩
      go_wp2
      go_ret
      exact ⟨by rw [HFN.out]; rfl, HB⟩
theorem dull_contains (g : Nat) (first : ByteArray) (A : Option Addr) (c : Nat) (L : List Row57) (w : World) (hm : MaxAt w) (hf : w.cell? ⟨g, 0, none⟩ = some (.string first)) (hC : Kd.C k57 w A L.length L) (hc : L.length ≤ c) (hL : L.length ≤ 1000000) (hz : ∀ x ∈ L, x.f0.size ≤ 1000000) :
    Calls Tryd.prog 63 #[.slice A L.length c, .func (.func 61) #[] #[.pointer (some ⟨g, 0, none⟩)]] w fun e w' => e = .returned (.bool (L.any (otherB first))) ∧ Aside0 (Below w.heap.size w w') := by
  obtain ⟨q, hq⟩ : ∃ q, findI (otherB first) L = q := ⟨_, rfl⟩
  have hany := findI_any (p := otherB first) (L := L)
  rw [hq] at hany
  have HANY := Aside0.mk hany
  have HQ := Aside0.mk hq
  have HC := Aside0.mk hC
  have HM := Aside0.mk hm
  have HF := Aside0.mk hf
  have HZ := Aside0.mk hz
  clear hany hq hC hm hf hz
  go_enter Tryd.func63, Tryd.ntmps63
  go_wp2_with fail
  refine (dull_index g first A c L _ HM.out HF.out HC.out hc hL HZ.out).mono ?_
  rintro e w1 ⟨rfl, HB⟩
  rw [HQ.out]
  go_wp2
  go_ret
  exact ⟨by rw [HANY.out]; rfl, HB⟩
end Go.Proofs.YthcnfflhejogfaaDoor.X
-- part XHk3
namespace Go.Proofs.YthcnfflhejogfaaDoor.X
open Go.RowKit Go.Proofs.YthcnfflhejogfaaDoorW.PrintWords Go.Proofs.YthcnfflhejogfaaDoorW.PrintLast Go.Proofs.YthcnfflhejogfaaDoorW.PrintMore
set_option linter.unusedVariables false
set_option linter.unusedSimpArgs false
def hasB (s : ByteArray) (c : UInt8) : Bool := decide (0 ≤ Lib.indexByte s.data.toList c)
def dullB : List Row57 → Bool
  | [] => false
  | r :: l => (hasB (colsOf r.f0) 43 && hasB (colsOf r.f0) 32) && !((r :: l).any (otherB (colsOf r.f0)))
theorem has_calls (s : ByteArray) (c : UInt8) (q : Bool) (hq : hasB s c = q) (w : World) : Calls Tryd.prog 62 #[.string s, .string ⟨#[c]⟩] w fun e w' => e = .returned (.bool q) ∧ Drawn0 w w' :=
  strings_Contains.calls s ⟨#[c]⟩ q w (by rw [← hq]; rfl)
set_option maxRecDepth 100000 in
set_option maxHeartbeats 2000000 in
theorem hunk_Dull (A : Option Addr) (c : Nat) (rows : List Row57) (w : World) (hm : MaxAt w) (hC : Kd.C k57 w A rows.length rows) (hc : rows.length ≤ c) (hL : rows.length ≤ 1000000) (hz : ∀ x ∈ rows, x.f0.size ≤ 1000000) :
    Calls Tryd.prog 33 #[.slice A rows.length c] w fun e w' => e = .returned (.bool (dullB rows)) ∧ Aside0 (Below w.heap.size w w') := by
  have HC := Aside0.mk hC
  have HM := Aside0.mk hm
  have HZ := Aside0.mk hz
  clear hC hm hz
  obtain ⟨D, hD⟩ : ∃ D, dullB rows = D := ⟨_, rfl⟩
  have HD := Aside0.mk hD
  rw [hD]
  clear hD
  by_cases h0 : rows.length = 0
  · have HD0 : Aside0 (D = false) := ⟨by rw [← HD.out, List.eq_nil_of_length_eq_zero h0]; rfl⟩
    have b0 : (((rows.length : Nat) : Int) == 0) = true := by simp [h0]
    have b0' : decide (((rows.length : Nat) : Int) = 0) = true := by simp [h0]
    go_enter Tryd.func33, Tryd.ntmps33
    go_wp2
    go_ret
    exact ⟨by rw [HD0.out]; rfl, ⟨Below.refl _ _⟩⟩
  · have b0 : (((rows.length : Nat) : Int) == 0) = false := by simp [h0]
    have b0' : decide (((rows.length : Nat) : Int) = 0) = false := by simp [h0]
    have hlt : 0 < rows.length := by omega
    obtain ⟨ad, rfl, x0, x1⟩ := at_T57 HC.out ((0 : Nat) : Int) (by omega) (by omega)
    have hx : rd_T57 rows ((0 : Nat) : Int) = rows[0] := getN hlt
    have hxs := HZ.out _ (List.getElem_mem hlt)
    obtain ⟨x, hxe⟩ : ∃ x, rows[0] = x := ⟨_, rfl⟩
    have hdl : dullB rows = ((hasB (colsOf x.f0) 43 && hasB (colsOf x.f0) 32) && !(rows.any (otherB (colsOf x.f0)))) := by
      cases rows with
      | nil => exact absurd rfl h0
      | cons r l => simp only [List.getElem_cons_zero] at hxe; subst hxe; rfl
    rw [hx, hxe] at x0 x1
    rw [hxe] at hxs
    have HXS := Aside0.mk hxs
    have HDL : Aside0 (D = ((hasB (colsOf x.f0) 43 && hasB (colsOf x.f0) 32) && !(rows.any (otherB (colsOf x.f0))))) := ⟨HD.out.symm.trans hdl⟩
    clear hx hxe hxs hdl HD
    have kk : ((0 : Nat) : Int).toNat = 0 := rfl
    rw [kk] at x0 x1
    clear kk
    have y0 : w.cell? ad = some (.string x.f0) := by simpa [Addr.add] using x0
    have y1 : w.cell? ⟨ad.block, ad.off + 1, none⟩ = some (.string x.f1) := by simpa [Addr.add] using x1
    obtain ⟨first, hfi⟩ : ∃ f, colsOf x.f0 = f := ⟨_, rfl⟩
    rw [hfi] at HDL
    have HFI := Aside0.mk hfi
    clear hfi
    obtain ⟨p1, hp1⟩ : ∃ p, hasB first 43 = p := ⟨_, rfl⟩
    obtain ⟨p2, hp2⟩ : ∃ p, hasB first 32 = p := ⟨_, rfl⟩
    obtain ⟨q, hq⟩ : ∃ q, rows.any (otherB first) = q := ⟨_, rfl⟩
    have HP1 := Aside0.mk hp1
    have HP2 := Aside0.mk hp2
    have HQ := Aside0.mk hq
    rw [hp1, hp2, hq] at HDL
    clear hp1 hp2 hq
    go_enter Tryd.func33, Tryd.ntmps33
    go_wp2_with fail
    refine (hunk_columns x.f0 x.f1 w HM.out HXS.out).mono ?_
    rintro e w1 ⟨rfl, HB1⟩
    rw [HFI.out]
    go_wp2_with fail
    refine (has_calls first 43 p1 HP1.out _).mono ?_
    rintro e w2' ⟨rfl, n2, hw2⟩
    obtain ⟨w2, e2⟩ : ∃ w2, w2 = w2' := ⟨_, rfl⟩
    rw [← e2] at hw2 ⊢
    clear e2
    have hw3 : Below w.heap.size w w2 := by
      rw [hw2]
      have h1 := HB1.out.alloc HB1.out.size (.cells #[.string first] 9)
      exact h1.trans ⟨rfl, rfl, rfl, Nat.le_refl _, fun _ _ => rfl⟩
    have hcg : w2.cell? ⟨w1.heap.size, 0, none⟩ = some (.string first) := by
      rw [hw2]
      simp
    have HW2 := Aside0.mk hw3
    have HCG := Aside0.mk hcg
    clear hw2 hw3 hcg x0 x1 y0 y1
    cases p1 with
    | false =>
      have HD0 : Aside0 (D = false) := ⟨by rw [HDL.out]; rfl⟩
      go_wp2
      go_ret
      exact ⟨by rw [HD0.out]; rfl, HW2⟩
    | true =>
      have cg := HCG.out
      go_wp2_with fail
      clear cg
      refine (has_calls first 32 p2 HP2.out _).mono ?_
      rintro e w3' ⟨rfl, n3, hn3⟩
      obtain ⟨w3, e3⟩ : ∃ w3, w3 = w3' := ⟨_, rfl⟩
      rw [← e3] at hn3 ⊢
      clear e3
      have HW3 : Aside0 (Below w.heap.size w w3) := ⟨by rw [hn3]; exact HW2.out.trans ⟨rfl, rfl, rfl, Nat.le_refl _, fun _ _ => rfl⟩⟩
      have HCG3 : Aside0 (w3.cell? ⟨w1.heap.size, 0, none⟩ = some (.string first)) := ⟨by rw [hn3]; simpa using HCG.out⟩
      clear hn3
      cases p2 with
      | false =>
        have HD0 : Aside0 (D = false) := ⟨by rw [HDL.out]; rfl⟩
        go_wp2
        go_ret
        exact ⟨by rw [HD0.out]; rfl, HW3⟩
      | true =>
        go_wp2_with fail
        refine (dull_contains w1.heap.size first (some ad) c rows _ (HM.out.step HW3.out) HCG3.out (Kd.C_below HC.out HW3.out) hc hL HZ.out).mono ?_
        rintro e w4 ⟨rfl, HB4⟩
        rw [HQ.out]
        have HW4 : Aside0 (Below w.heap.size w w4) := ⟨HW3.out.trans (HB4.out.mono HW3.out.size)⟩
        clear HB4
        go_wp2
        go_ret
        exact ⟨by rw [HDL.out]; simp, HW4⟩
end Go.Proofs.YthcnfflhejogfaaDoor.X
-- part XHk4
namespace Go.Proofs.YthcnfflhejogfaaDoor.X
open Go.RowKit Go.Proofs.YthcnfflhejogfaaDoorW.PrintWords Go.Proofs.YthcnfflhejogfaaDoorW.PrintLast Go.Proofs.YthcnfflhejogfaaDoorW.PrintMore
set_option linter.unusedVariables false
set_option linter.unusedSimpArgs false
/-- How much a row counts. -/
def oneB (q : Bool) : Int := if q = true then 1 else 0
/-- What the counter's parents have, a row passed. -/
def passL (s : ByteArray) (olds : List Int) : List Int := olds.mapIdx fun i n => n + oneB (ofB (i : Int) s)
theorem passL_len (s : ByteArray) (olds : List Int) : (passL s olds).length = olds.length := by rw [passL, List.length_mapIdx]
theorem passL_get (s : ByteArray) (olds : List Int) {i : Nat} (h : i < olds.length) : (passL s olds).getD i 0 = olds.getD i 0 + oneB (ofB (i : Int) s) := by
  have h2 : i < (passL s olds).length := by rw [passL_len]; exact h
  rw [getD_get h2, getD_get h]
  simp [passL]
/-- The counter, where it stands. -/
def CtAt (W : World) (g go : Nat) (olds : List Int) (n : Int) : Prop :=
  W.heap[g]? = some (.cells #[.slice (some ⟨go, 0, none⟩) olds.length olds.length, .int .i64 n] 90 (0, 0)) ∧ W.heap[go]? = some (.cells (olds.map (Value.int .i64)).toArray 3 (0, 0))
/-- All blocks stay but two. -/
def SameRest (W W' : World) : Prop := W'.os = W.os ∧ W'.tape = W.tape ∧ W'.output = W.output
theorem SameRest.trans {W W1 W2 : World} (h : SameRest W W1) (k : SameRest W1 W2) : SameRest W W2 := ⟨k.1.trans h.1, k.2.1.trans h.2.1, k.2.2.trans h.2.2⟩
structure Keeps2 (g go : Nat) (W W' : World) : Prop where
  size : W.heap.size ≤ W'.heap.size
  block : ∀ k, k < W.heap.size → k ≠ g → k ≠ go → W'.heap[k]? = W.heap[k]?
  rest : SameRest W W'
theorem Keeps2.refl (g go : Nat) (W : World) : Keeps2 g go W W := ⟨Nat.le_refl _, fun _ _ _ _ => rfl, rfl, rfl, rfl⟩
theorem Keeps2.below {g go : Nat} {W W1 W2 : World} (h : Keeps2 g go W W1) (hb : Below W1.heap.size W1 W2) : Keeps2 g go W W2 := ⟨Nat.le_trans h.1 hb.size, fun k hk h1 h2 => (hb.block k (by have := h.1; omega)).trans (h.2 k hk h1 h2), h.3.trans ⟨hb.os, hb.tape, hb.output⟩⟩
theorem Keeps2.set {g go : Nat} {W W1 : World} (h : Keeps2 g go W W1) {b : Nat} (hb : b = g ∨ b = go) (j : Nat) (v : Value) : Keeps2 g go W (W1.setCell ⟨b, j, none⟩ v) :=
  ⟨by simpa [World.setCell] using h.1, fun k hk a c => (heap_set_other (by rcases hb with rfl | rfl <;> assumption) _).trans (h.2 k hk a c), h.3.trans ⟨rfl, rfl, rfl⟩⟩
/-- In pass's loop: so many parents counted. -/
def PassI (w W : World) (g go : Nat) (s : ByteArray) (olds : List Int) (n : Int) (i : Nat) : Prop :=
  Keeps2 g go w W ∧ CtAt W g go ((passL s olds).take i ++ olds.drop i) n
section
variable {w W W' : World} {g go i : Nat} {s : ByteArray} {olds : List Int} {n : Int}
theorem pass_mix_len (hi : i ≤ olds.length) : ((passL s olds).take i ++ olds.drop i).length = olds.length := by
  rw [List.length_append, List.length_take, List.length_drop, passL_len]; omega
theorem CtAt.below (h : CtAt W g go olds n) (hb : Below W.heap.size W W') : CtAt W' g go olds n := ⟨farKeep h.1 hb, farKeep h.2 hb⟩
theorem PassI.below (h : PassI w W g go s olds n i) (hb : Below W.heap.size W W') : PassI w W' g go s olds n i := ⟨h.1.below hb, h.2.below hb⟩
theorem PassI.rowO (h : PassI w W g go s olds n i) (hi : i ≤ olds.length) : W.cell? ⟨g, 0, none⟩ = some (.slice (some ⟨go, 0, none⟩) olds.length olds.length) := by
  have := cell_blk h.2.1 (j := 0) rfl
  rw [pass_mix_len hi] at this
  exact this
theorem PassI.cellO (h : PassI w W g go s olds n i) (hi : i < olds.length) : W.cell? ⟨go, i, none⟩ = some (.int .i64 (olds.getD i 0)) := by
  refine cell_blk h.2.2 ?_
  have hl : ((passL s olds).take i).length = i := by rw [List.length_take, passL_len]; omega
  have e : ((passL s olds).take i ++ olds.drop i)[i]? = some (olds.getD i 0) := by
    rw [List.getElem?_append_right (by omega), hl, Nat.sub_self, List.getElem?_drop, Nat.add_zero, List.getElem?_eq_getElem hi, getD_get hi]
  show (((passL s olds).take i ++ olds.drop i).map (Value.int .i64)).toArray[i]? = _
  rw [List.getElem?_toArray, List.getElem?_map, e]; rfl
theorem PassI.move (h : PassI w W g go s olds n i) (hi : i < olds.length) (hne : g ≠ go) : PassI w (W.setCell ⟨go, i, none⟩ (.int .i64 (olds.getD i 0 + oneB (ofB (i : Int) s)))) g go s olds n (i + 1) := by
  obtain ⟨h1, h2, h3⟩ := h
  have hl : ((passL s olds).take i).length = i := by rw [List.length_take, passL_len]; omega
  have e : ((passL s olds).take i ++ olds.drop i).set i (olds.getD i 0 + oneB (ofB (i : Int) s)) = (passL s olds).take (i + 1) ++ olds.drop (i + 1) := by
    have hip : i < (passL s olds).length := by rw [passL_len]; exact hi
    rw [List.set_append_right _ _ (by omega), hl, Nat.sub_self, dropCons hi, List.set_cons_zero, ← passL_get s olds hi, getD_get hip, ← List.take_append_getElem hip, List.append_assoc]; rfl
  refine ⟨h1.set (.inr rfl) _ _, ?_, ?_⟩
  · rw [pass_mix_len (by omega)] at h2 ⊢
    exact setKeep h2 hne _
  · rw [heap_set_same h3, ← e, List.map_set, ← List.setIfInBounds_toArray]
end
theorem one_row {W : World} {b : Nat} {x : Row57} (h0 : W.cell? ⟨b, 0, none⟩ = some (.string x.f0)) (h1 : W.cell? ⟨b, 1, none⟩ = some (.string x.f1)) : Kd.C k57 W (some ⟨b, 0, none⟩) 1 [x] :=
  ⟨rfl, by omega, fun _ => ⟨_, rfl, fun j p hp => by
    cases j with
    | zero =>
      have e : x = p := by simpa using hp
      subst e
      refine ⟨[.string x.f0, .string x.f1], rfl, k57_mk W x, fun i u hu => ?_⟩
      match i with
      | 0 => have e : (Value.string x.f0) = u := by simpa using hu
             subst e; simpa [Addr.add] using h0
      | 1 => have e : (Value.string x.f1) = u := by simpa using hu
             subst e; simpa [Addr.add, k57, Kd.iso, Kd.pair, Kd.string] using h1
      | i + 2 => simp at hu
    | succ j => simp at hp⟩⟩
set_option maxRecDepth 100000 in
set_option maxHeartbeats 4000000 in
theorem counter_pass (g go : Nat) (olds : List Int) (n : Int) (x : Row57) (w : World) (h : CtAt w g go olds n) (hs : x.f0.size ≤ 1000000) (ho : olds.length ≤ 1000000) (hz : ∀ m ∈ olds, 0 ≤ m ∧ m ≤ 1000000000) (hn : 0 ≤ n ∧ n ≤ 1000000000) :
    Calls Tryd.prog 56 #[.pointer (some ⟨g, 0, none⟩), .agg #[.string x.f0, .string x.f1]] w fun e w' => e = .returned (.tuple #[]) ∧ Aside0 (CtAt w' g go (passL x.f0 olds) (n + oneB (!lostB x.f0))) ∧ Aside0 (Keeps2 g go w w') := by
  have HNE : Aside0 (g ≠ go) := ⟨blkNe h.1 h.2 (by decide)⟩
  have HG : Aside0 (g < w.heap.size) := ⟨(Array.getElem?_eq_some_iff.1 h.1).1⟩
  have HGO : Aside0 (go < w.heap.size) := ⟨(Array.getElem?_eq_some_iff.1 h.2).1⟩
  have H := Aside0.mk h
  have HZ := Aside0.mk hz
  clear h hz
  go_enter Tryd.func56, Tryd.ntmps56
  go_upto_region 2 with fail
  obtain ⟨W1, hW1⟩ : ∃ W1, (w.alloc (.cells #[.string x.f0, .string x.f1] 57)).alloc (.cells #[.string x.f0, .string x.f1] 57) = W1 := ⟨_, rfl⟩
  have HB1 : Aside0 (Below w.heap.size w W1) := ⟨by rw [← hW1]; exact ((Below.refl _ w).alloc (Nat.le_refl _) _).alloc (by simp) _⟩
  have hbo : W1.heap[w.heap.size + 1]? = some (.cells #[.string x.f0, .string x.f1] 57 (0, 0)) := by
    rw [← hW1]
    have := blk_new (w.alloc (.cells #[.string x.f0, .string x.f1] 57)) (.cells #[.string x.f0, .string x.f1] 57)
    simpa using this
  have HBO := Aside0.mk hbo
  rw [hW1]
  clear hW1 hbo
  have HI : Aside0 (PassI w W1 g go x.f0 olds n 0) := ⟨⟨(Keeps2.refl g go w).below HB1.out, by simpa using H.out.below HB1.out⟩⟩
  have y0 := HI.out.rowO (Nat.zero_le _)
  go_wp2_with fail
  go_loopw [13] (fun s13 wr => ∃ (i : Nat), s13 = .int .i64 i ∧ i ≤ olds.length ∧ Aside0 (PassI w wr g go x.f0 olds n i) ∧ Aside0 (wr.heap[w.heap.size + 1]? = some (.cells #[.string x.f0, .string x.f1] 57 (0, 0)))) (fun s13 _ => olds.length - (intOf s13).toNat)
  case atStart => exact ⟨0, rfl, Nat.zero_le _, HI, HBO⟩
  case round =>
    obtain ⟨i, rfl, hi, HI, HBO⟩ := hrel
    by_cases hlt : i < olds.length
    · have y0 := HI.out.rowO hi
      have y1 := HI.out.cellO hlt
      obtain ⟨o, hoi⟩ : ∃ o, olds.getD i 0 = o := ⟨_, rfl⟩
      have hoz : 0 ≤ o ∧ o ≤ 1000000000 := by rw [← hoi, getD_get hlt]; exact HZ.out _ (List.getElem_mem hlt)
      rw [hoi] at y1
      obtain ⟨r, hr⟩ : ∃ r : List ByteArray, (([x] : List Row57).filter (fun y => ofB (i : Int) y.f0)).map (·.f1) = r := ⟨_, rfl⟩
      have hrl : (r.length : Int) = oneB (ofB (i : Int) x.f0) := by
        rw [← hr]
        cases hq : ofB (i : Int) x.f0 <;> simp [hq, oneB]
      have HOI := Aside0.mk hoi
      have HOZ := Aside0.mk hoz
      have HRR := Aside0.mk hr
      have HRL := Aside0.mk hrl
      have HONE : Aside0 (Kd.C k57 wr.drew (some ⟨w.heap.size + 1, 0, none⟩) [x].length [x]) := ⟨Kd.C_drew (one_row (cell_blk HBO.out rfl) (cell_blk HBO.out rfl)) ⟩
      have HCF : Aside0 (table_Column.f [x] (i : Int) = some r) := ⟨by rw [table_Column.f, if_pos ⟨by simp, fun y hy => by rw [List.mem_singleton.1 hy]; omega⟩, HRR.out]⟩
      clear hoi hoz hr hrl
      go_wp2
      refine start_ (n := 14) (S := fun w' => w'.cell? ⟨g, 0, none⟩ = some (.slice (some ⟨go, 0, none⟩) olds.length olds.length) ∧ w'.cell? ⟨go, i, none⟩ = some (.int .i64 o)) (ds := [13]) #[false, false, false, false, false, false, false, false, false, false, false, false, false, false] (by kernel_rfl) rfl rfl ⟨y0, y1⟩ (fun hHeld => ?_)
      refine pure_ (i := 0) (N := some 16) (v := ?_) (a' := ?_) #[true, false, false, false, false, false, false, false, false, false, false, false, false, false] rfl rfl (by kernel_rfl) (fun _ _ _ h => h) (Or.inl ⟨by rfl, ?_⟩) ?_ ?_
      rotate_left
      · intro w'
        go_simp
        with_reducible rfl
      rotate_left
      · simp only [Act.put, List.setIfInBounds_toArray, List.set_cons_zero, List.set_cons_succ, i64_w, i32_w]
        rfl
      refine pure_ (i := 1) (N := some 17) (v := ?_) (a' := ?_) #[true, true, false, false, false, false, false, false, false, false, false, false, false, false] rfl rfl (by kernel_rfl) (fun _ _ _ h => h) (Or.inl ⟨by rfl, ?_⟩) ?_ ?_
      rotate_left
      · intro w'
        go_simp
        with_reducible rfl
      rotate_left
      · simp only [Act.put, List.setIfInBounds_toArray, List.set_cons_zero, List.set_cons_succ, i64_w, i32_w]
        rfl
      refine pure_ (i := 2) (N := some 18) (v := ?_) (a' := ?_) #[true, true, true, false, false, false, false, false, false, false, false, false, false, false] rfl rfl (by kernel_rfl) (fun _ _ _ h => h) (Or.inl ⟨by rfl, ?_⟩) ?_ ?_
      rotate_left
      · intro w'
        go_simp
        with_reducible rfl
      rotate_left
      · simp only [Act.put, List.setIfInBounds_toArray, List.set_cons_zero, List.set_cons_succ, i64_w, i32_w]
        rfl
      refine pure_ (i := 4) (N := some 20) (v := ?_) (a' := ?_) #[true, true, true, false, true, false, false, false, false, false, false, false, false, false] rfl rfl (by kernel_rfl) (fun _ _ _ h => h) (Or.inl ⟨by rfl, ?_⟩) ?_ ?_
      rotate_left
      · intro w'
        go_simp
        with_reducible rfl
      rotate_left
      · simp only [Act.put, List.setIfInBounds_toArray, List.set_cons_zero, List.set_cons_succ, i64_w, i32_w]
        rfl
      refine pure_ (i := 7) (N := some 23) (v := ?_) (a' := ?_) #[true, true, true, false, true, false, false, true, false, false, false, false, false, false] rfl rfl (by kernel_rfl) (fun _ _ _ h => h) (Or.inl ⟨by rfl, ?_⟩) ?_ ?_
      rotate_left
      · intro w'
        go_simp
        with_reducible rfl
      rotate_left
      · simp only [Act.put, List.setIfInBounds_toArray, List.set_cons_zero, List.set_cons_succ, i64_w, i32_w]
        rfl
      refine pure_ (i := 8) (N := some 24) (v := ?_) (a' := ?_) #[true, true, true, false, true, false, false, true, true, false, false, false, false, false] rfl rfl (by kernel_rfl) (fun _ _ _ h => h) (Or.inl ⟨by rfl, ?_⟩) ?_ ?_
      rotate_left
      · intro w'
        go_simp
        with_reducible rfl
      rotate_left
      · simp only [Act.put, List.setIfInBounds_toArray, List.set_cons_zero, List.set_cons_succ, i64_w, i32_w]
        rfl
      refine take_ (i := 3) (N := some 19) (v := ?_) (a' := ?_) #[true, true, true, true, true, false, false, true, true, false, false, false, false, false] rfl rfl (by kernel_rfl) (fun _ _ _ h => h) (Or.inl ⟨by rfl, ?_⟩) hHeld ?_ ?_
      rotate_left
      · rintro w' ⟨s0, s1⟩
        go_simp
        with_reducible rfl
      rotate_left
      · simp only [Act.put, List.setIfInBounds_toArray, List.set_cons_zero, List.set_cons_succ, i64_w, i32_w]
        rfl
      refine pure_ (i := 5) (N := some 21) (v := ?_) (a' := ?_) #[true, true, true, true, true, true, false, true, true, false, false, false, false, false] rfl rfl (by kernel_rfl) (fun _ _ _ h => h) (Or.inl ⟨by rfl, ?_⟩) ?_ ?_
      rotate_left
      · intro w'
        go_simp
        with_reducible rfl
      rotate_left
      · simp only [Act.put, List.setIfInBounds_toArray, List.set_cons_zero, List.set_cons_succ, i64_w, i32_w]
        rfl
      refine take_ (i := 6) (N := some 22) (v := ?_) (a' := ?_) #[true, true, true, true, true, true, true, true, true, false, false, false, false, false] rfl rfl (by kernel_rfl) (fun _ _ _ h => h) (Or.inl ⟨by rfl, ?_⟩) hHeld ?_ ?_
      rotate_left
      · rintro w' ⟨s0, s1⟩
        go_simp
        with_reducible rfl
      rotate_left
      · simp only [Act.put, List.setIfInBounds_toArray, List.set_cons_zero, List.set_cons_succ, i64_w, i32_w]
        rfl
      refine one_ (i := 9) (N := some 25) #[true, true, true, true, true, true, true, true, true, true, false, false, false, false] rfl rfl (by kernel_rfl) (by decide) (fun K hK => ?_)
      refine goes_ Tryd.func39 (by kernel_rfl) rfl #[.slice (some ⟨w.heap.size + 1, 0, none⟩) ([x] : List Row57).length 1, .int .i64 (i : Int)] (by rfl) rfl rfl (by simp only [List.map_toArray, List.map_cons, List.map_nil]; rfl) ?_
      with_reducible refine (table_Column.calls (some ⟨w.heap.size + 1, 0, none⟩) 1 [x] (i : Int) r wr.drew HONE.out (Nat.le_refl _) HCF.out).mono ?_
      rintro e w2 ⟨v2, rfl, hr2, hb2⟩
      obtain ⟨A2, c2, rfl⟩ := Kd.R_slice hr2
      refine ⟨_, rfl, ?_⟩
      have HI2 : Aside0 (PassI w w2 g go x.f0 olds n i) := ⟨HI.out.below ((Below.refl _ wr).drew.trans hb2)⟩
      have HBO2 := Aside0.mk (farKeep HBO.out ((Below.refl _ wr).drew.trans hb2))
      have z0 := HI2.out.rowO hi
      have z1 := HI2.out.cellO hlt
      rw [HOI.out] at z1
      have fr2 : w2.frozen? ⟨go, i, none⟩ = false := frozen_of_row _ _ _ _ _ HI2.out.2.2
      clear hr2 hb2
      refine hK.out _ _ ⟨z0, z1⟩ (fun hHeld => ?_)
      clear hK K
      refine norm_ (a' := ?_) ?_ ?_
      rotate_left
      · show Act.put _ (some 25) _ = _
        simp only [Act.put, List.setIfInBounds_toArray, List.set_cons_zero, List.set_cons_succ, i64_w, i32_w]
        rfl
      refine pure_ (i := 10) (N := some 26) (v := ?_) (a' := ?_) #[true, true, true, true, true, true, true, true, true, true, true, false, false, false] rfl rfl (by kernel_rfl) (fun _ _ _ h => h) (Or.inl ⟨by rfl, ?_⟩) ?_ ?_
      rotate_left
      · intro w'
        go_simp
        with_reducible rfl
      rotate_left
      · simp only [Act.put, List.setIfInBounds_toArray, List.set_cons_zero, List.set_cons_succ, i64_w, i32_w]
        rfl
      refine pure_ (i := 11) (N := some 27) (v := ?_) (a' := ?_) #[true, true, true, true, true, true, true, true, true, true, true, true, false, false] rfl rfl (by kernel_rfl) (fun _ _ _ h => h) (Or.inl ⟨by rfl, ?_⟩) ?_ ?_
      rotate_left
      · intro w'
        go_simp
        with_reducible rfl
      rotate_left
      · simp only [Act.put, List.setIfInBounds_toArray, List.set_cons_zero, List.set_cons_succ, i64_w, i32_w]
        rfl
      refine pure_ (i := 12) (N := some 28) (v := ?_) (a' := ?_) #[true, true, true, true, true, true, true, true, true, true, true, true, true, false] rfl rfl (by kernel_rfl) (fun _ _ _ h => h) (Or.inl ⟨by rfl, ?_⟩) ?_ ?_
      rotate_left
      · intro w'
        go_simp
        with_reducible rfl
      rotate_left
      · simp only [Act.put, List.setIfInBounds_toArray, List.set_cons_zero, List.set_cons_succ, i64_w, i32_w]
        rfl
      refine last_ (i := 13) (N := none) #[true, true, true, true, true, true, true, true, true, true, true, true, true, true] rfl rfl (by kernel_rfl) (by decide) (fun K hK => ?_)
      refine skip_ (w1 := ?_) (by rfl) rfl ?_ ?_
      rotate_left
      · go_simp
        rfl
      refine hK.out _ _ ?_
      clear hK K
      refine done_ (by kernel_rfl) ?_

      clear y0 y1 z0 z1 fr2
      have hw : wrap64 (o + (r.length : Int)) = o + oneB (ofB (i : Int) x.f0) := by
        rw [HRL.out]
        have := HOZ.out
        unfold oneB
        split
        · rw [gw (by omega) (by omega)]
        · rw [gw (by omega) (by omega)]
      rw [hw]
      have HI3 : Aside0 (PassI w (w2.setCell ⟨go, i, none⟩ (.int .i64 (o + oneB (ofB (i : Int) x.f0)))) g go x.f0 olds n (i + 1)) := ⟨by rw [← HOI.out]; exact HI2.out.move hlt HNE.out⟩
      have HBO3 := Aside0.mk (setKeep (g := go) (j := i) HBO2.out (by have := HGO.out; omega) (.int .i64 (o + oneB (ofB (i : Int) x.f0))))
      clear hw
      go_wp2
      go_roundw
      case measure => simp [intOf]; omega
      case rel => exact ⟨i + 1, by go_num, by omega, HI3, HBO3⟩
    · have hin : i = olds.length := by omega
      subst hin
      have HCT : Aside0 (CtAt wr g go (passL x.f0 olds) n) := ⟨by
        have := HI.out.2
        rwa [List.take_of_length_le (by rw [passL_len]; omega), List.drop_of_length_le (Nat.le_refl _), List.append_nil] at this⟩
      have HKP : Aside0 (Keeps2 g go w wr) := ⟨HI.out.1⟩
      have y1 : wr.cell? ⟨g, 1, none⟩ = some (.int .i64 n) := cell_blk HCT.out.1 rfl
      obtain ⟨r, hr⟩ : ∃ r : List ByteArray, (([x] : List Row57).filter (fun y => !lostB y.f0)).map (·.f1) = r := ⟨_, rfl⟩
      have hrl : (r.length : Int) = oneB (!lostB x.f0) := by
        rw [← hr]
        cases hq : lostB x.f0 <;> simp [hq, oneB]
      have HRR := Aside0.mk hr
      have HRL := Aside0.mk hrl
      have HONE : Aside0 (Kd.C k57 wr.drew (some ⟨w.heap.size + 1, 0, none⟩) [x].length [x]) := ⟨Kd.C_drew (one_row (cell_blk HBO.out rfl) (cell_blk HBO.out rfl))⟩
      have HCF : Aside0 (table_Result.f [x] = some r) := ⟨by rw [table_Result.f, if_pos ⟨by simp, fun y hy => by rw [List.mem_singleton.1 hy]; omega⟩, HRR.out]⟩
      clear hr hrl y0
      go_wp2
      refine start_ (n := 11) (S := fun w' => w'.cell? ⟨g, 1, none⟩ = some (.int .i64 n)) (ds := [10]) #[false, false, false, false, false, false, false, false, false, false, false] (by kernel_rfl) rfl rfl (y1) (fun hHeld => ?_)
      refine pure_ (i := 0) (N := some 30) (v := ?_) (a' := ?_) #[true, false, false, false, false, false, false, false, false, false, false] rfl rfl (by kernel_rfl) (fun _ _ _ h => h) (Or.inl ⟨by rfl, ?_⟩) ?_ ?_
      rotate_left
      · intro w'
        go_simp
        with_reducible rfl
      rotate_left
      · simp only [Act.put, List.setIfInBounds_toArray, List.set_cons_zero, List.set_cons_succ, i64_w, i32_w]
        rfl
      refine pure_ (i := 1) (N := some 31) (v := ?_) (a' := ?_) #[true, true, false, false, false, false, false, false, false, false, false] rfl rfl (by kernel_rfl) (fun _ _ _ h => h) (Or.inl ⟨by rfl, ?_⟩) ?_ ?_
      rotate_left
      · intro w'
        go_simp
        with_reducible rfl
      rotate_left
      · simp only [Act.put, List.setIfInBounds_toArray, List.set_cons_zero, List.set_cons_succ, i64_w, i32_w]
        rfl
      refine pure_ (i := 2) (N := some 32) (v := ?_) (a' := ?_) #[true, true, true, false, false, false, false, false, false, false, false] rfl rfl (by kernel_rfl) (fun _ _ _ h => h) (Or.inl ⟨by rfl, ?_⟩) ?_ ?_
      rotate_left
      · intro w'
        go_simp
        with_reducible rfl
      rotate_left
      · simp only [Act.put, List.setIfInBounds_toArray, List.set_cons_zero, List.set_cons_succ, i64_w, i32_w]
        rfl
      refine pure_ (i := 4) (N := some 34) (v := ?_) (a' := ?_) #[true, true, true, false, true, false, false, false, false, false, false] rfl rfl (by kernel_rfl) (fun _ _ _ h => h) (Or.inl ⟨by rfl, ?_⟩) ?_ ?_
      rotate_left
      · intro w'
        go_simp
        with_reducible rfl
      rotate_left
      · simp only [Act.put, List.setIfInBounds_toArray, List.set_cons_zero, List.set_cons_succ, i64_w, i32_w]
        rfl
      refine take_ (i := 3) (N := some 33) (v := ?_) (a' := ?_) #[true, true, true, true, true, false, false, false, false, false, false] rfl rfl (by kernel_rfl) (fun _ _ _ h => h) (Or.inl ⟨by rfl, ?_⟩) hHeld ?_ ?_
      rotate_left
      · intro w' s0
        go_simp
        with_reducible rfl
      rotate_left
      · simp only [Act.put, List.setIfInBounds_toArray, List.set_cons_zero, List.set_cons_succ, i64_w, i32_w]
        rfl
      refine one_ (i := 5) (N := some 35) #[true, true, true, true, true, true, false, false, false, false, false] rfl rfl (by kernel_rfl) (by decide) (fun K hK => ?_)
      refine goes_ Tryd.func38 (by kernel_rfl) rfl #[.slice (some ⟨w.heap.size + 1, 0, none⟩) ([x] : List Row57).length 1] (by rfl) rfl rfl (by simp only [List.map_toArray, List.map_cons, List.map_nil]; rfl) ?_
      with_reducible refine (table_Result.calls (some ⟨w.heap.size + 1, 0, none⟩) 1 [x] r wr.drew HONE.out (Nat.le_refl _) HCF.out).mono ?_
      rintro e w2 ⟨v2, rfl, hr2, hb2⟩
      obtain ⟨A2, c2, rfl⟩ := Kd.R_slice hr2
      refine ⟨_, rfl, ?_⟩
      have HCT2 : Aside0 (CtAt w2 g go (passL x.f0 olds) n) := ⟨HCT.out.below ((Below.refl _ wr).drew.trans hb2)⟩
      have HKP2 : Aside0 (Keeps2 g go w w2) := ⟨HKP.out.below ((Below.refl _ wr).drew.trans hb2)⟩
      have z1 : w2.cell? ⟨g, 1, none⟩ = some (.int .i64 n) := cell_blk HCT2.out.1 rfl
      have fr2 : w2.frozen? ⟨g, 1, none⟩ = false := frozen_of_row _ _ _ _ _ HCT2.out.1
      clear hr2 hb2
      refine hK.out _ _ (z1) (fun hHeld => ?_)
      clear hK K
      refine norm_ (a' := ?_) ?_ ?_
      rotate_left
      · show Act.put _ (some 35) _ = _
        simp only [Act.put, List.setIfInBounds_toArray, List.set_cons_zero, List.set_cons_succ, i64_w, i32_w]
        rfl
      refine pure_ (i := 6) (N := some 36) (v := ?_) (a' := ?_) #[true, true, true, true, true, true, true, false, false, false, false] rfl rfl (by kernel_rfl) (fun _ _ _ h => h) (Or.inl ⟨by rfl, ?_⟩) ?_ ?_
      rotate_left
      · intro w'
        go_simp
        with_reducible rfl
      rotate_left
      · simp only [Act.put, List.setIfInBounds_toArray, List.set_cons_zero, List.set_cons_succ, i64_w, i32_w]
        rfl
      refine pure_ (i := 7) (N := some 37) (v := ?_) (a' := ?_) #[true, true, true, true, true, true, true, true, false, false, false] rfl rfl (by kernel_rfl) (fun _ _ _ h => h) (Or.inl ⟨by rfl, ?_⟩) ?_ ?_
      rotate_left
      · intro w'
        go_simp
        with_reducible rfl
      rotate_left
      · simp only [Act.put, List.setIfInBounds_toArray, List.set_cons_zero, List.set_cons_succ, i64_w, i32_w]
        rfl
      refine pure_ (i := 8) (N := some 38) (v := ?_) (a' := ?_) #[true, true, true, true, true, true, true, true, true, false, false] rfl rfl (by kernel_rfl) (fun _ _ _ h => h) (Or.inl ⟨by rfl, ?_⟩) ?_ ?_
      rotate_left
      · intro w'
        go_simp
        with_reducible rfl
      rotate_left
      · simp only [Act.put, List.setIfInBounds_toArray, List.set_cons_zero, List.set_cons_succ, i64_w, i32_w]
        rfl
      refine pure_ (i := 9) (N := some 39) (v := ?_) (a' := ?_) #[true, true, true, true, true, true, true, true, true, true, false] rfl rfl (by kernel_rfl) (fun _ _ _ h => h) (Or.inl ⟨by rfl, ?_⟩) ?_ ?_
      rotate_left
      · intro w'
        go_simp
        with_reducible rfl
      rotate_left
      · simp only [Act.put, List.setIfInBounds_toArray, List.set_cons_zero, List.set_cons_succ, i64_w, i32_w]
        rfl
      refine last_ (i := 10) (N := none) #[true, true, true, true, true, true, true, true, true, true, true] rfl rfl (by kernel_rfl) (by decide) (fun K hK => ?_)
      refine skip_ (w1 := ?_) (by rfl) rfl ?_ ?_
      rotate_left
      · go_simp
        rfl
      refine hK.out _ _ ?_
      clear hK K
      refine done_ (by kernel_rfl) ?_

      clear y1 z1 fr2
      have hw : wrap64 (n + (r.length : Int)) = n + oneB (!lostB x.f0) := by
        rw [HRL.out]
        unfold oneB
        split
        · rw [gw (by omega) (by omega)]
        · rw [gw (by omega) (by omega)]
      rw [hw]
      have HCT3 : Aside0 (CtAt (w2.setCell ⟨g, 1, none⟩ (.int .i64 (n + oneB (!lostB x.f0)))) g go (passL x.f0 olds) (n + oneB (!lostB x.f0))) := ⟨⟨by rw [heap_set_same HCT2.out.1]; rfl, setKeep HCT2.out.2 (fun e => HNE.out e.symm) _⟩⟩
      have HKP3 : Aside0 (Keeps2 g go w (w2.setCell ⟨g, 1, none⟩ (.int .i64 (n + oneB (!lostB x.f0))))) := ⟨HKP2.out.set (.inl rfl) _ _⟩
      clear hw
      go_wp2
      go_end0
      exact ⟨rfl, HCT3, HKP3⟩
end Go.Proofs.YthcnfflhejogfaaDoor.X
-- part XHk5
namespace Go.Proofs.YthcnfflhejogfaaDoor.X
open Go.RowKit Go.Proofs.YthcnfflhejogfaaDoorW.PrintWords Go.Proofs.YthcnfflhejogfaaDoorW.PrintLast Go.Proofs.YthcnfflhejogfaaDoorW.PrintMore
set_option linter.unusedVariables false
set_option linter.unusedSimpArgs false
abbrev Span45 := S45
/-- The counter, so many rows passed. -/
def passR (rows : List Row57) (olds : List Int) : List Int := rows.foldl (fun o x => passL x.f0 o) olds
def passN (rows : List Row57) (n : Int) : Int := rows.foldl (fun m x => m + oneB (!lostB x.f0)) n
def spansH (olds olds' : List Int) : List Span45 := List.zipWith (fun a b => (⟨a, b⟩ : Span45)) olds olds'
/-- In hunk's first loop: so many spans begun; nothing that was is touched. -/
def HunkI (w W : World) (g go : Nat) (olds : List Int) (n : Int) (m : Int) (vr : Value) (v : Value) (l : List Span45) : Prop :=
  Keeps2 g go w W ∧ CtAt W g go olds m ∧ W.heap[w.heap.size]? = some (.cells #[.slice none 0 0, .int .i64 0, .int .i64 0, .slice none 0 0] 48 (0, 0)) ∧
    W.heap[w.heap.size + 1]? = some (.cells #[v, .int .i64 n, .int .i64 0, vr] 48 (0, 0)) ∧ Kd.R k45 45 W w.heap.size (fun _ => True) v l
theorem HunkI.below {w W W' : World} {g go : Nat} {olds : List Int} {n m : Int} {vr v : Value} {l : List Span45} (h : HunkI w W g go olds n m vr v l) (hb : Below W.heap.size W W') : HunkI w W' g go olds n m vr v l := by
  obtain ⟨h1, h2, h3, h4, h5⟩ := h
  exact ⟨h1.below hb, h2.below hb, farKeep h3 hb, farKeep h4 hb, Kd.R_below h5 hb⟩
theorem HunkI.lay {w W W2 : World} {g go : Nat} {olds : List Int} {n m : Int} {vr v v2 : Value} {l l2 : List Span45} (h : HunkI w W g go olds n m vr v l) (hg2 : W.grownBy W2 v.ownBlock) (hr2 : Kd.R k45 45 W2 w.heap.size (fun _ => True) v2 l2) (hg : g < w.heap.size) (hgo : go < w.heap.size) : HunkI w (W2.setCell ⟨w.heap.size + 1, 0, none⟩ v2) g go olds n m vr v2 l2 := by
  obtain ⟨h1, h2, h3, h4, h5⟩ := h
  have k4 := (hg2.block _ (Array.getElem?_eq_some_iff.1 h4).1 (Kd.R_ne h5 h4 (by decide))).trans h4
  refine ⟨⟨?_, fun k hk a b => ?_, h1.3.trans ⟨hg2.os, hg2.tape, hg2.output⟩⟩, ⟨setKeep ((hg2.block _ (Array.getElem?_eq_some_iff.1 h2.1).1 (Kd.R_ne h5 h2.1 (by decide))).trans h2.1) (by omega) _, setKeep ((hg2.block _ (Array.getElem?_eq_some_iff.1 h2.2).1 (Kd.R_ne h5 h2.2 (by decide))).trans h2.2) (by omega) _⟩, setKeep ((hg2.block _ (Array.getElem?_eq_some_iff.1 h3).1 (Kd.R_ne h5 h3 (by decide))).trans h3) (by omega) _, by rw [heap_set_same k4]; rfl, Kd.R_set hr2 k4 (by decide) _ _⟩
  · have := hg2.size; have := h1.1; simp [World.setCell]; omega
  · rw [heap_set_other (by omega)]
    refine (hg2.block k (Nat.lt_of_lt_of_le hk h1.1) (fun e => ?_)).trans (h1.2 k hk a b)
    have := Kd.R_base h5 k e.symm
    omega
theorem CtAt.away {W : World} {g go : Nat} {olds : List Int} {n : Int} (h : CtAt W g go olds n) {p : Addr} {s : ByteArray} (hp : W.cell? p = some (.string s)) : p.block ≠ g ∧ p.block ≠ go := by
  have key : ∀ {b : Nat} {cs : Array Value} {t : TypeId}, W.heap[b]? = some (.cells cs t (0, 0)) → p.block = b → ∃ j : Nat, cs[j]? = some (.string s) := by
    intro b cs t hb e
    rw [World.cell?, e, hb] at hp
    dsimp only at hp
    split at hp
    · cases hp
    · exact ⟨_, hp⟩
  constructor
  · intro e
    obtain ⟨j, hj⟩ := key h.1 e
    match j with
    | 0 => simp at hj
    | 1 => simp at hj
    | j + 2 => simp at hj
  · intro e
    obtain ⟨j, hj⟩ := key h.2 e
    rw [List.getElem?_toArray, List.getElem?_map] at hj
    cases hx : olds[j]? with
    | none => rw [hx] at hj; cases hj
    | some m => rw [hx] at hj; cases hj
theorem passR_snoc {rows : List Row57} {olds : List Int} {i : Nat} (h : i < rows.length) : passR (rows.take (i + 1)) olds = passL rows[i].f0 (passR (rows.take i) olds) := by
  rw [passR, passR, ← List.take_append_getElem h, List.foldl_append]; rfl
theorem passN_snoc {rows : List Row57} {n : Int} {i : Nat} (h : i < rows.length) : passN (rows.take (i + 1)) n = passN (rows.take i) n + oneB (!lostB rows[i].f0) := by
  rw [passN, passN, ← List.take_append_getElem h, List.foldl_append]; rfl
theorem passR_len : ∀ (rows : List Row57) (olds : List Int), (passR rows olds).length = olds.length
  | [], olds => rfl
  | x :: rows, olds => by
    show (passR rows (passL x.f0 olds)).length = _
    rw [passR_len rows, passL_len]
theorem oneB_low (q : Bool) : 0 ≤ oneB q ∧ oneB q ≤ 1 := by cases q <;> decide
theorem passR_low : ∀ (rows : List Row57) (olds : List Int) (B : Int), (∀ m ∈ olds, 0 ≤ m ∧ m ≤ B) → ∀ m ∈ passR rows olds, 0 ≤ m ∧ m ≤ B + rows.length
  | [], olds, B, h, m, hm => by have := h m hm; simpa using this
  | x :: rows, olds, B, h, m, hm => by
    have := passR_low rows (passL x.f0 olds) (B + 1) (fun m hm => by
      obtain ⟨i, hi, rfl⟩ := List.mem_iff_getElem.1 hm
      have hi2 : i < olds.length := by rw [passL_len] at hi; exact hi
      have e := passL_get x.f0 olds hi2
      rw [getD_get hi, getD_get hi2] at e
      rw [e]
      have := h _ (List.getElem_mem hi2)
      have := oneB_low (ofB (i : Int) x.f0)
      omega) m hm
    rw [List.length_cons]
    omega
theorem passN_low : ∀ (rows : List Row57) (n B : Int), 0 ≤ n ∧ n ≤ B → 0 ≤ passN rows n ∧ passN rows n ≤ B + rows.length
  | [], n, B, h => by show 0 ≤ n ∧ n ≤ B + ((0 : Nat) : Int); omega
  | x :: rows, n, B, h => by
    have h1 := oneB_low (!lostB x.f0)
    have := passN_low rows (n + oneB (!lostB x.f0)) (B + 1) (by omega)
    rw [List.length_cons]
    show 0 ≤ passN rows (n + oneB (!lostB x.f0)) ∧ passN rows (n + oneB (!lostB x.f0)) ≤ _
    omega
theorem Keeps2.trans {g go : Nat} {W W1 W2 : World} (h : Keeps2 g go W W1) (k : Keeps2 g go W1 W2) : Keeps2 g go W W2 := ⟨Nat.le_trans h.1 k.1, fun j hj a b => (k.2 j (Nat.lt_of_lt_of_le hj h.1) a b).trans (h.2 j hj a b), h.3.trans k.3⟩
theorem HunkI.pass {w W W2 : World} {g go : Nat} {olds olds2 : List Int} {n m m2 : Int} {vr v : Value} {l : List Span45} (h : HunkI w W g go olds n m vr v l) (hk : Keeps2 g go W W2) (hc : CtAt W2 g go olds2 m2) (hg : g < w.heap.size) (hgo : go < w.heap.size) : HunkI w W2 g go olds2 n m2 vr v l := by
  obtain ⟨h1, h2, h3, h4, h5⟩ := h
  have keep : ∀ {k : Nat} {o : Obj}, w.heap.size ≤ k → W.heap[k]? = some o → W2.heap[k]? = some o := fun {k o} hb hh => (hk.2 k (Array.getElem?_eq_some_iff.1 hh).1 (by omega) (by omega)).trans hh
  refine ⟨h1.trans hk, hc, keep (Nat.le_refl _) h3, keep (by omega) h4, ?_⟩
  have b := Kd.R_bound h5
  exact Kd.R_mono (Kd.R_step b (fun k hk' hlt => hk.2 k hlt (by have := hk'.2.1; omega) (by have := hk'.2.1; omega))) (fun _ _ => trivial)
/-- A span's end is laid. -/
theorem span_put {W : World} {B gs n co : Nat} {l : List Span45} (h : Kd.R k45 45 W B (fun _ => True) (.slice (some ⟨gs, 0, none⟩) n co) l) {i : Nat} (hi : i < n) (t : Int) :
    W.cell? ⟨gs, i * 2 + 1, none⟩ = some (.int .i64 (l.getD i z45).f1) ∧ W.frozen? ⟨gs, i * 2 + 1, none⟩ = false ∧
      Kd.R k45 45 (W.setCell ⟨gs, i * 2 + 1, none⟩ (.int .i64 t)) B (fun _ => True) (.slice (some ⟨gs, 0, none⟩) n co) (l.set i ⟨(l.getD i z45).f0, t⟩) ∧ W.grownBy (W.setCell ⟨gs, i * 2 + 1, none⟩ (.int .i64 t)) (some gs) := by
  obtain ⟨cs, hcl, hM, hcell, hfr⟩ := Kd.R_elem h z45 (i : Int) (by omega) (by omega)
  rw [Int.toNat_natCast] at hM
  have e := k45_openM hM
  subst e
  have hs := Kd.R_seg h (i : Int) (by omega) (by omega) (seg := [.int .i64 t]) (j := 1) hcl hcell (by show 1 + 1 ≤ 2; omega) (x' := (⟨(l.getD i z45).f0, t⟩ : Span45)) (okp := fun k => True ∧ k ≠ gs) (k45_mkM _ _ _ _) (fun k hk => hk)
  rw [Int.toNat_natCast] at hs
  have c1 := hcell 1 _ rfl
  have f1 := hfr 1
  rw [Int.toNat_natCast] at c1 f1
  exact ⟨c1, f1, hs.1, hs.2⟩
/-- In the last loop: the hunk's end is laid; so many spans are ended. -/
def HunkJ (w W : World) (g go : Nat) (olds : List Int) (n m : Int) (vr v : Value) (l : List Span45) : Prop :=
  Keeps2 g go w W ∧ CtAt W g go olds m ∧ W.heap[w.heap.size]? = some (.cells #[.slice none 0 0, .int .i64 0, .int .i64 0, .slice none 0 0] 48 (0, 0)) ∧
    W.heap[w.heap.size + 1]? = some (.cells #[v, .int .i64 n, .int .i64 m, vr] 48 (0, 0)) ∧ Kd.R k45 45 W w.heap.size (fun _ => True) v l
theorem HunkI.end_ {w W : World} {g go : Nat} {olds : List Int} {n m : Int} {vr v : Value} {l : List Span45} (h : HunkI w W g go olds n m vr v l) (hg : g < w.heap.size) (hgo : go < w.heap.size) : HunkJ w (W.setCell ⟨w.heap.size + 1, 2, none⟩ (.int .i64 m)) g go olds n m vr v l := by
  obtain ⟨h1, h2, h3, h4, h5⟩ := h
  refine ⟨⟨by simpa [World.setCell] using h1.1, fun k hk a b => ?_, h1.3.trans ⟨rfl, rfl, rfl⟩⟩, ⟨setKeep h2.1 (by omega) _, setKeep h2.2 (by omega) _⟩, setKeep h3 (by omega) _, by rw [heap_set_same h4]; rfl, Kd.R_set h5 h4 (by decide) _ _⟩
  rw [heap_set_other (by omega)]
  exact h1.2 k hk a b
theorem HunkJ.put {w W W2 : World} {g go gs : Nat} {olds : List Int} {n m : Int} {vr v : Value} {l l2 : List Span45} (h : HunkJ w W g go olds n m vr v l) (hv : v.ownBlock = some gs) (hr : Kd.R k45 45 W2 w.heap.size (fun _ => True) v l2) (hg2 : W.grownBy W2 (some gs)) (hg : g < w.heap.size) (hgo : go < w.heap.size) : HunkJ w W2 g go olds n m vr v l2 := by
  obtain ⟨h1, h2, h3, h4, h5⟩ := h
  rw [← hv] at hg2
  refine ⟨⟨?_, fun k hk a b => ?_, h1.3.trans ⟨hg2.os, hg2.tape, hg2.output⟩⟩, ⟨(hg2.block _ (Array.getElem?_eq_some_iff.1 h2.1).1 (Kd.R_ne h5 h2.1 (by decide))).trans h2.1, (hg2.block _ (Array.getElem?_eq_some_iff.1 h2.2).1 (Kd.R_ne h5 h2.2 (by decide))).trans h2.2⟩, (hg2.block _ (Array.getElem?_eq_some_iff.1 h3).1 (Kd.R_ne h5 h3 (by decide))).trans h3, (hg2.block _ (Array.getElem?_eq_some_iff.1 h4).1 (Kd.R_ne h5 h4 (by decide))).trans h4, hr⟩
  · have := hg2.size; have := h1.1; omega
  · refine (hg2.block k (Nat.lt_of_lt_of_le hk h1.1) (fun e => ?_)).trans (h1.2 k hk a b)
    have := Kd.R_base h5 k e.symm
    omega
def mixS (olds olds' : List Int) (i : Nat) : List Span45 := (spansH olds olds').take i ++ (olds.map (fun a => (⟨a, 0⟩ : Span45))).drop i
theorem mix_set {olds olds' : List Int} (h : olds'.length = olds.length) {i : Nat} (hi : i < olds.length) : (mixS olds olds' i).set i ⟨((mixS olds olds' i).getD i z45).f0, olds'.getD i 0⟩ = mixS olds olds' (i + 1) := by
  have hs : (spansH olds olds').length = olds.length := by rw [spansH, List.length_zipWith, h, Nat.min_self]
  have hl : ((spansH olds olds').take i).length = i := by rw [List.length_take]; omega
  have hd : i < (olds.map (fun a => (⟨a, 0⟩ : Span45))).length := by rw [List.length_map]; exact hi
  have hg : (mixS olds olds' i).getD i z45 = ⟨olds.getD i 0, 0⟩ := by
    rw [mixS, List.getD_eq_getElem?_getD, List.getElem?_append_right (by omega), hl, Nat.sub_self, List.getElem?_drop, Nat.add_zero, List.getElem?_eq_getElem hd, List.getElem_map, getD_get hi]; rfl
  have hsi : i < (spansH olds olds').length := by omega
  have e : (spansH olds olds')[i] = ⟨olds.getD i 0, olds'.getD i 0⟩ := by
    simp only [spansH, List.getElem_zipWith]
    rw [getD_get hi, getD_get (by omega)]
  rw [hg, mixS, mixS, List.set_append_right _ _ (by omega), hl, Nat.sub_self, dropCons hd, List.set_cons_zero, ← List.take_append_getElem hsi, e, List.append_assoc]; rfl
def set4 (W : World) (g : Nat) (a b c d : Value) : World := (((W.setCell ⟨g, 0, none⟩ a).setCell ⟨g, 1, none⟩ b).setCell ⟨g, 2, none⟩ c).setCell ⟨g, 3, none⟩ d
theorem set4_same {W : World} {g : Nat} {t : TypeId} {a b c d a' b' c' d' : Value} (h : W.heap[g]? = some (.cells #[a, b, c, d] t (0, 0))) : (set4 W g a' b' c' d').heap[g]? = some (.cells #[a', b', c', d'] t (0, 0)) :=
  heap_set_same (heap_set_same (heap_set_same (heap_set_same h _) _) _) _
theorem set4_other {W : World} {g k : Nat} {a b c d : Value} (h : k ≠ g) : (set4 W g a b c d).heap[k]? = W.heap[k]? := by
  rw [set4, heap_set_other h, heap_set_other h, heap_set_other h, heap_set_other h]
theorem HunkJ.fin {w W : World} {g go : Nat} {olds : List Int} {n m : Int} {vr v a b c d : Value} {l : List Span45} (h : HunkJ w W g go olds n m vr v l) (hg : g < w.heap.size) (hgo : go < w.heap.size) : CtAt (set4 W w.heap.size a b c d) g go olds m ∧ Kd.R k45 45 (set4 W w.heap.size a b c d) w.heap.size (fun _ => True) v l ∧ Keeps2 g go w (set4 W w.heap.size a b c d) := by
  obtain ⟨h1, h2, h3, h4, h5⟩ := h
  refine ⟨⟨(set4_other (by omega)).trans h2.1, (set4_other (by omega)).trans h2.2⟩, ?_, ⟨by have := h1.1; simpa [set4, World.setCell] using this, fun k hk p q => (set4_other (by omega)).trans (h1.2 k hk p q), h1.3.trans ⟨rfl, rfl, rfl⟩⟩⟩
  have e := Kd.R_bound h5
  refine Kd.R_mono (Kd.R_step e (fun k hk' hlt => set4_other (fun e => ?_))) (fun _ _ => trivial)
  obtain ⟨_, _, _, q, hq, cells, hc⟩ := hk'
  rw [e, h3] at hc
  injection hc with hc
  injection hc with _ e2 _
  rw [← e2] at hq
  revert hq
  decide
set_option maxRecDepth 100000 in
set_option maxHeartbeats 4000000 in
theorem counter_hunk (g go : Nat) (olds : List Int) (n : Int) (A : Option Addr) (c : Nat) (rows : List Row57) (w : World) (h : CtAt w g go olds n) (hC : Kd.C k57 w A rows.length rows) (hc : rows.length ≤ c) (hl : rows.length ≤ 1000000) (hs : ∀ x ∈ rows, x.f0.size ≤ 1000000) (ho : olds.length ≤ 1000000) (hz : ∀ m ∈ olds, 0 ≤ m ∧ m ≤ 100000000) (hn : 0 ≤ n ∧ n ≤ 100000000) :
    Calls Tryd.prog 55 #[.pointer (some ⟨g, 0, none⟩), .slice A rows.length c] w fun e w' => ∃ v, e = .returned (.agg #[v, .int .i64 n, .int .i64 (passN rows n), .slice A rows.length c]) ∧ Aside0 (CtAt w' g go (passR rows olds) (passN rows n)) ∧ Aside0 (Kd.R k45 45 w' w.heap.size (fun _ => True) v (spansH olds (passR rows olds))) ∧ Aside0 (Keeps2 g go w w') := by
  have H := Aside0.mk h
  have HC := Aside0.mk hC
  have HZ := Aside0.mk hz
  have HS := Aside0.mk hs
  have y0 : w.cell? ⟨g, 0, none⟩ = some (.slice (some ⟨go, 0, none⟩) olds.length olds.length) := cell_blk h.1 rfl
  have y1 : w.cell? ⟨g, 1, none⟩ = some (.int .i64 n) := cell_blk h.1 rfl
  have y1a : ∀ o, (w.alloc o).cell? ⟨g, 1, none⟩ = some (.int .i64 n) := fun o => cell_alloc_of y1 o
  have y1b : ∀ o o2, ((w.alloc o).alloc o2).cell? ⟨g, 1, none⟩ = some (.int .i64 n) := fun o o2 => cell_alloc_of (cell_alloc_of y1 o) o2
  clear h hC hz hs
  go_enter Tryd.func55, Tryd.ntmps55
  go_upto_region 2 with fail
  obtain ⟨W1, hW1⟩ : ∃ W1, (w.alloc (.cells #[.slice none 0 0, .int .i64 0, .int .i64 0, .slice none 0 0] 48)).alloc (.cells #[.slice none 0 0, .int .i64 n, .int .i64 0, .slice A rows.length c] 48) = W1 := ⟨_, rfl⟩
  have hb1 : Below w.heap.size w W1 := by rw [← hW1]; exact ((Below.refl _ w).alloc (Nat.le_refl _) _).alloc (by simp) _
  have hx0 : W1.heap[w.heap.size]? = some (.cells #[.slice none 0 0, .int .i64 0, .int .i64 0, .slice none 0 0] 48 (0, 0)) := by
    rw [← hW1, heap_alloc_old _ _ (by simp)]; exact blk_new _ _
  have hx1 : W1.heap[w.heap.size + 1]? = some (.cells #[.slice none 0 0, .int .i64 n, .int .i64 0, .slice A rows.length c] 48 (0, 0)) := by
    rw [← hW1]
    have := blk_new (w.alloc (.cells #[.slice none 0 0, .int .i64 0, .int .i64 0, .slice none 0 0] 48)) (.cells #[.slice none 0 0, .int .i64 n, .int .i64 0, .slice A rows.length c] 48)
    simpa using this
  rw [hW1]
  have HI : Aside0 (HunkI w W1 g go olds n n (.slice A rows.length c) (.slice none 0 0) []) := ⟨⟨(Keeps2.refl g go w).below hb1, H.out.below hb1, hx0, hx1, Kd.R_nil _ _ _ _ _⟩⟩
  have HG : Aside0 (g < w.heap.size ∧ go < w.heap.size) := ⟨⟨(Array.getElem?_eq_some_iff.1 H.out.1).1, (Array.getElem?_eq_some_iff.1 H.out.2).1⟩⟩
  clear hW1 hb1 hx0 hx1 y0 y1 y1a y1b
  have y0 : W1.cell? ⟨g, 0, none⟩ = some (.slice (some ⟨go, 0, none⟩) olds.length olds.length) := cell_blk HI.out.2.1.1 rfl
  go_wp2_with fail
  clear y0
  go_loopw [24] (fun s wr => ∃ (i : Nat) (Ao : Option Addr) (co : Nat), s = .int .i64 i ∧ i ≤ olds.length ∧ Aside0 (HunkI w wr g go olds n n (.slice A rows.length c) (.slice Ao i co) ((olds.take i).map (fun a => (⟨a, 0⟩ : Span45))))) (fun s _ => olds.length - (intOf s).toNat)
  case atStart => exact ⟨0, none, 0, rfl, Nat.zero_le _, HI⟩
  case round =>
    obtain ⟨i, Ao, co, rfl, hi, HI⟩ := hrel
    by_cases hlt : i < olds.length
    · have z1 : wr.cell? ⟨go, i, none⟩ = some (.int .i64 (olds.getD i 0)) := by
        refine cell_blk HI.out.2.1.2 ?_
        rw [List.getElem?_toArray, List.getElem?_map, List.getElem?_eq_getElem hlt, getD_get hlt]; rfl
      have z2 : wr.cell? ⟨w.heap.size + 1, 0, none⟩ = some (.slice Ao i co) := cell_blk HI.out.2.2.2.1 rfl
      obtain ⟨o, hoi⟩ : ∃ o, olds.getD i 0 = o := ⟨_, rfl⟩
      rw [hoi] at z1
      have HOI := Aside0.mk hoi
      have hll : ((olds.take i).map (fun a => (⟨a, 0⟩ : Span45))).length = i := by rw [List.length_map, List.length_take]; omega
      have HLL := Aside0.mk hll
      clear hoi hll
      go_wp2_with (first
        | (at_builtin; refine Kd.R_append k45 (w0 := wr) w.heap.size rfl (.tmp 29) (.tmp 32) 46 45 (.agg #[.int .i64 0, .int .i64 0]) 16 rfl Tryd.underlying46 info45 rfl (by decide) (by decide) (.slice Ao i co) ((olds.take i).map (fun a => (⟨a, 0⟩ : Span45))) ⟨o, 0⟩ [.int .i64 o, .int .i64 0] (fun _ => True) (fun _ => False) rfl rfl (k45_mkM _ _ _ _) (fun _ h => h.elim) (fun _ _ => trivial) HI.out.2.2.2.2 ?aB HI.out.1.1 (by rw [HLL.out]; omega) ?_; (case aB => exact Below.refl _ _); intro v2 w2 hr2 hb2 hg2 hat2; obtain ⟨A2, c2, hv2⟩ := Kd.R_slice hr2; subst hv2; have g2 := (hg2.block _ (Array.getElem?_eq_some_iff.1 HI.out.2.2.2.1).1 (Kd.R_ne HI.out.2.2.2.2 HI.out.2.2.2.1 (by decide))).trans HI.out.2.2.2.1; have z22 : w2.cell? ⟨w.heap.size + 1, 0, none⟩ = some (.slice Ao i co) := cell_blk g2 rfl; have fr2 : w2.frozen? ⟨w.heap.size + 1, 0, none⟩ = false := frozen_of_row _ _ _ _ _ g2; have HR2 := Aside0.mk hr2; have HG2 := Aside0.mk hg2; clear hr2 hb2 hg2 hat2 g2))
      have hr3 : Kd.R k45 45 w2 w.heap.size (fun _ => True) (.slice A2 (i + 1) c2) ((olds.take (i + 1)).map (fun a => (⟨a, 0⟩ : Span45))) := by
        have hr := HR2.out
        rw [List.length_append, List.length_singleton, HLL.out] at hr
        have e : (olds.take (i + 1)).map (fun a => (⟨a, 0⟩ : Span45)) = (olds.take i).map (fun a => (⟨a, 0⟩ : Span45)) ++ [⟨o, 0⟩] := by
          rw [← List.take_append_getElem hlt, List.map_append, List.map_singleton, ← HOI.out, getD_get hlt]
        rw [e]
        exact hr
      have HI3 := Aside0.mk (HI.out.lay HG2.out hr3 HG.out.1 HG.out.2)
      go_roundw
      case measure => simp [intOf]; omega
      case rel => exact ⟨i + 1, A2, c2, by go_num, by omega, HI3⟩
    · have hin : i = olds.length := by omega
      subst hin
      rw [List.take_length] at HI
      obtain ⟨sp0, hsp⟩ : ∃ sp0, olds.map (fun a => (⟨a, 0⟩ : Span45)) = sp0 := ⟨_, rfl⟩
      have HSP := Aside0.mk hsp
      rw [hsp] at HI
      clear hsp
      go_wp2_with fail
      go_loopw [38] (fun s wr => ∃ (i : Nat), s = .int .i64 i ∧ i ≤ rows.length ∧ Aside0 (HunkI w wr g go (passR (rows.take i) olds) n (passN (rows.take i) n) (.slice A rows.length c) (.slice Ao olds.length co) sp0)) (fun s _ => rows.length - (intOf s).toNat)
      case atStart => exact ⟨0, rfl, Nat.zero_le _, HI⟩
      case round =>
        obtain ⟨i, rfl, hi, HI⟩ := hrel
        by_cases hlt : i < rows.length
        · obtain ⟨ad, rfl, x0, x1⟩ := at_T57 HC.out (i : Int) (by omega) (by omega)
          have hx : rd_T57 rows (i : Int) = rows[i] := getN hlt
          have hxs := HS.out _ (List.getElem_mem hlt)
          obtain ⟨x, hxe⟩ : ∃ x, rows[i] = x := ⟨_, rfl⟩
          rw [hx, hxe] at x0 x1
          rw [hxe] at hxs
          have HXE := Aside0.mk hxe
          have HXS := Aside0.mk hxs
          clear hx hxe hxs
          have a0 := H.out.away x0
          have a1 := H.out.away x1
          replace x0 := (World.cell?_of_block (HI.out.1.2 _ (World.block_lt_of_cell? w _ x0) a0.1 a0.2)).trans x0
          replace x1 := (World.cell?_of_block (HI.out.1.2 _ (World.block_lt_of_cell? w _ x1) a1.1 a1.2)).trans x1
          have kk : (i : Int).toNat = i := by omega
          rw [kk] at x0 x1
          clear kk a0 a1
          have HR1 : Aside0 (HunkI w (wr.alloc (.cells #[.string x.f0, .string x.f1] 57)) g go (passR (rows.take i) olds) n (passN (rows.take i) n) (.slice (some ad) rows.length c) (.slice Ao olds.length co) sp0) := ⟨HI.out.below (newBelow _ _)⟩
          have hrl : (rows.take i).length ≤ 1000000 := by rw [List.length_take]; omega
          have HBO : Aside0 (∀ m ∈ passR (rows.take i) olds, 0 ≤ m ∧ m ≤ 1000000000) := ⟨fun m hm => by have := passR_low (rows.take i) olds 100000000 HZ.out m hm; omega⟩
          have HBN : Aside0 (0 ≤ passN (rows.take i) n ∧ passN (rows.take i) n ≤ 1000000000) := ⟨by have := passN_low (rows.take i) n 100000000 hn; omega⟩
          clear hrl
          go_wp2_with fail
          refine (counter_pass g go (passR (rows.take i) olds) (passN (rows.take i) n) x _ HR1.out.2.1 HXS.out (by rw [passR_len]; exact ho) HBO.out HBN.out).mono ?_
          rintro e w2 ⟨rfl, HCT2, HKP2⟩
          have HI3 : Aside0 (HunkI w w2 g go (passR (rows.take (i + 1)) olds) n (passN (rows.take (i + 1)) n) (.slice (some ad) rows.length c) (.slice Ao olds.length co) sp0) := ⟨by
            rw [passR_snoc hlt, passN_snoc hlt, HXE.out]
            exact HR1.out.pass HKP2.out HCT2.out HG.out.1 HG.out.2⟩
          clear HCT2 HKP2
          go_wp2
          go_roundw
          case measure => simp [intOf]; omega
          case rel => exact ⟨i + 1, by go_num, by omega, HI3⟩
        · have hin : i = rows.length := by omega
          subst hin
          rw [List.take_length] at HI
          obtain ⟨olds', ho'⟩ : ∃ o, passR rows olds = o := ⟨_, rfl⟩
          obtain ⟨n', hn'⟩ : ∃ m, passN rows n = m := ⟨_, rfl⟩
          have hol : olds'.length = olds.length := by rw [← ho', passR_len]
          rw [ho', hn'] at HI
          have HOE := Aside0.mk ho'
          have HNE := Aside0.mk hn'
          have HOL := Aside0.mk hol
          clear ho' hn' hol
          have HJ := Aside0.mk (HI.out.end_ HG.out.1 HG.out.2)
          have y1 : wr.cell? ⟨g, 1, none⟩ = some (.int .i64 n') := cell_blk HI.out.2.1.1 rfl
          have y2 : wr.cell? ⟨w.heap.size + 1, 2, none⟩ = some (.int .i64 0) := cell_blk HI.out.2.2.2.1 rfl
          have fr2 : wr.frozen? ⟨w.heap.size + 1, 2, none⟩ = false := frozen_of_row _ _ _ _ _ HI.out.2.2.2.1
          have y0 : (wr.setCell ⟨w.heap.size + 1, 2, none⟩ (.int .i64 n')).cell? ⟨g, 0, none⟩ = some (.slice (some ⟨go, 0, none⟩) olds'.length olds'.length) := cell_blk HJ.out.2.1.1 rfl
          go_wp2_with fail
          clear y0 y1 y2 fr2
          go_loopw [57] (fun s wr => ∃ (i : Nat), s = .int .i64 i ∧ i ≤ olds'.length ∧ Aside0 (HunkJ w wr g go olds' n n' (.slice A rows.length c) (.slice Ao olds.length co) (mixS olds olds' i))) (fun s _ => olds'.length - (intOf s).toNat)
          case atStart => exact ⟨0, rfl, Nat.zero_le _, ⟨by
            have e : mixS olds olds' 0 = sp0 := by rw [← HSP.out]; simp [mixS]
            rw [e]; exact HJ.out⟩⟩
          case round =>
            obtain ⟨i, rfl, hi, HJ⟩ := hrel
            by_cases hlt : i < olds'.length
            · have hlt2 : i < olds.length := by rw [← HOL.out]; exact hlt
              have z1 : wr.cell? ⟨go, i, none⟩ = some (.int .i64 (olds'.getD i 0)) := by
                refine cell_blk HJ.out.2.1.2 ?_
                rw [List.getElem?_toArray, List.getElem?_map, List.getElem?_eq_getElem hlt, getD_get hlt]; rfl
              have hml : (mixS olds olds' i).length = olds.length := ((Kd.R_reads' HJ.out.2.2.2.2).1).symm
              obtain ⟨gs, cap, hv, _, hgs, _⟩ := Kd.R_form HJ.out.2.2.2.2 (by omega)
              injection hv with hA hB hC'
              subst hA
              obtain ⟨q1, q2, q3, q4⟩ := span_put HJ.out.2.2.2.2 hlt2 (olds'.getD i 0)
              have HQ3 := Aside0.mk q3
              have HQ4 := Aside0.mk q4
              have z2 : wr.cell? ⟨w.heap.size + 1, 0, none⟩ = some (.slice (some ⟨gs, 0, none⟩) olds.length co) := cell_blk HJ.out.2.2.2.1 rfl
              obtain ⟨o, hoi⟩ : ∃ o, olds'.getD i 0 = o := ⟨_, rfl⟩
              obtain ⟨f1, hf1⟩ : ∃ f, ((mixS olds olds' i).getD i z45).f1 = f := ⟨_, rfl⟩
              rw [hoi] at z1
              rw [hf1] at q1
              have HOI := Aside0.mk hoi
              clear hoi hf1 q3 q4 hml hB hC'
              go_wp2_with fail
              have HJ3 : Aside0 (HunkJ w (wr.setCell ⟨gs, i * 2 + 1, none⟩ (.int .i64 o)) g go olds' n n' (.slice A rows.length c) (.slice (some ⟨gs, 0, none⟩) olds.length co) (mixS olds olds' (i + 1))) := ⟨by
                have a := HQ3.out
                have b := HQ4.out
                rw [mix_set HOL.out hlt2, HOI.out] at a
                rw [HOI.out] at b
                exact HJ.out.put rfl a b HG.out.1 HG.out.2⟩
              go_roundw
              case measure => simp [intOf]; omega
              case rel => exact ⟨i + 1, by go_num, by omega, HJ3⟩
            · have hin : i = olds'.length := by omega
              subst hin
              have hms : mixS olds olds' olds'.length = spansH olds olds' := by
                have hs : (spansH olds olds').length = olds.length := by rw [spansH, List.length_zipWith, HOL.out, Nat.min_self]
                rw [mixS, List.take_of_length_le (by rw [hs, HOL.out]; exact Nat.le_refl _), List.drop_of_length_le (by rw [List.length_map, HOL.out]; exact Nat.le_refl _), List.append_nil]
              rw [hms] at HJ
              clear hms
              have z0 : wr.cell? ⟨w.heap.size + 1, 0, none⟩ = some (.slice Ao olds.length co) := cell_blk HJ.out.2.2.2.1 rfl
              have z1 : wr.cell? ⟨w.heap.size + 1, 1, none⟩ = some (.int .i64 n) := cell_blk HJ.out.2.2.2.1 rfl
              have z2 : wr.cell? ⟨w.heap.size + 1, 2, none⟩ = some (.int .i64 n') := cell_blk HJ.out.2.2.2.1 rfl
              have z3 : wr.cell? ⟨w.heap.size + 1, 3, none⟩ = some (.slice A rows.length c) := cell_blk HJ.out.2.2.2.1 rfl
              have r0 : wr.cell? ⟨w.heap.size, 0, none⟩ = some (.slice none 0 0) := cell_blk HJ.out.2.2.1 rfl
              have r1 : wr.cell? ⟨w.heap.size, 1, none⟩ = some (.int .i64 0) := cell_blk HJ.out.2.2.1 rfl
              have r2 : wr.cell? ⟨w.heap.size, 2, none⟩ = some (.int .i64 0) := cell_blk HJ.out.2.2.1 rfl
              have r3 : wr.cell? ⟨w.heap.size, 3, none⟩ = some (.slice none 0 0) := cell_blk HJ.out.2.2.1 rfl
              have fr0 : wr.frozen? ⟨w.heap.size, 0, none⟩ = false := frozen_of_row _ _ _ _ _ HJ.out.2.2.1
              have fr1 : wr.frozen? ⟨w.heap.size, 1, none⟩ = false := frozen_of_row _ _ _ _ _ HJ.out.2.2.1
              have fr2 : wr.frozen? ⟨w.heap.size, 2, none⟩ = false := frozen_of_row _ _ _ _ _ HJ.out.2.2.1
              have fr3 : wr.frozen? ⟨w.heap.size, 3, none⟩ = false := frozen_of_row _ _ _ _ _ HJ.out.2.2.1
              go_wp2_with fail
              refine bodyPost_ret (results_cell_row rfl _ _ w.heap.size 48 #[.slice Ao olds.length co, .int .i64 n, .int .i64 n', .slice A rows.length c] (0, 0) _ rfl (set4_same HJ.out.2.2.1) Tryd.underlying48 rfl (by kernel_rfl)) rfl ?_
              obtain ⟨e1, e2, e3⟩ := HJ.out.fin (a := .slice Ao olds.length co) (b := .int .i64 n) (c := .int .i64 n') (d := .slice A rows.length c) HG.out.1 HG.out.2
              exact ⟨_, by rw [HNE.out], ⟨by rw [HOE.out, HNE.out]; exact e1⟩, ⟨by rw [HOE.out]; exact e2⟩, ⟨e3⟩⟩
end Go.Proofs.YthcnfflhejogfaaDoor.X
-- part XHk6
namespace Go.Proofs.YthcnfflhejogfaaDoor.X
open Go.RowKit Go.Proofs.YthcnfflhejogfaaDoorW.PrintWords Go.Proofs.YthcnfflhejogfaaDoorW.PrintLast Go.Proofs.YthcnfflhejogfaaDoorW.PrintMore
set_option linter.unusedVariables false
set_option linter.unusedSimpArgs false
theorem hunk_groups (A : Option Addr) (n c : Nat) (w : World) : Calls Tryd.prog 53 #[.slice A n c] w fun e w' => e = .returned (.func (.func 83) #[] #[.pointer (some ⟨w.heap.size, 0, none⟩)]) ∧ w' = w.alloc (.cells #[.slice A n c] 36) := by
  have hmf : ∀ (fn : Fn) (first cap : Array Value) (w : World), (Instr.makeFunc fn first cap).run Tryd.prog w = .ok (.func fn first cap) w := fun _ _ _ _ => rfl
  go_enter Tryd.func53, Tryd.ntmps53
  go_wp2
  go_ret
  exact ⟨rfl, rfl⟩
theorem hunk_groups_in (k : Nat) (A : Option Addr) (n c : Nat) (w : World) : CallsIn Fence.wide k Tryd.prog 53 #[.slice A n c] w fun e w' => e = .returned (.func (.func 83) #[] #[.pointer (some ⟨w.heap.size, 0, none⟩)]) ∧ w' = w.alloc (.cells #[.slice A n c] 36) := by
  refine callsIn_of_wp Tryd.func53 rfl trivial ?_ rfl
  simp only [Tryd.ntmps53, List.size_toArray, List.length_cons, List.length_nil, Nat.reduceAdd, Nat.reduceSub, Array.replicate_succ, Array.replicate_zero, List.push_toArray, List.append_toArray, List.nil_append, List.cons_append]
  gi_wp2
  go_ret
  exact ⟨by simp, rfl⟩
end Go.Proofs.YthcnfflhejogfaaDoor.X
-- part XHk7
namespace Go.Proofs.YthcnfflhejogfaaDoor.X
open Go.RowKit Go.Proofs.YthcnfflhejogfaaDoorW.PrintWords Go.Proofs.YthcnfflhejogfaaDoorW.PrintLast Go.Proofs.YthcnfflhejogfaaDoorW.PrintMore
set_option linter.unusedVariables false
set_option linter.unusedSimpArgs false
/-- Has a row a mark? -/
def markB (x : Row57) : Bool := ((⟨(Lib.trimS x.f0.data.toList [32]).toArray⟩ : ByteArray).toList != ([] : List UInt8))
theorem marked_f (x : Row57) (hs : x.f0.size ≤ 1000000) : hunk_marked.f x.f0 x.f1 = some (markB x) := by
  rw [hunk_marked.f, strings_Trim.f, if_pos ⟨by omega, by decide, by decide⟩, Option.bind_some]; rfl
theorem hunk_marked (x : Row57) (hs : x.f0.size ≤ 1000000) (w : World) : Calls Tryd.prog 84 #[.agg #[.string x.f0, .string x.f1]] w fun e w' => e = .returned (.bool (markB x)) ∧ Below w.heap.size w w' :=
  hunk_marked.calls x.f0 x.f1 (markB x) w (marked_f x hs)
/-- Where the group that row i is in ends. -/
def groupEnd (rows : List Row57) (i : Nat) : Nat := i + ((rows.drop i).takeWhile markB).length
theorem groupEnd_step {rows : List Row57} {i : Nat} (h : i < rows.length) (hm : markB rows[i] = true) : groupEnd rows i = groupEnd rows (i + 1) := by
  rw [groupEnd, groupEnd, dropCons h, List.takeWhile_cons, if_pos hm, List.length_cons]; omega
theorem groupEnd_stop {rows : List Row57} {i : Nat} (h : i < rows.length) (hm : markB rows[i] = false) : groupEnd rows i = i := by
  rw [groupEnd, dropCons h, List.takeWhile_cons, if_neg (by rw [hm]; decide)]; rfl
theorem groupEnd_end {rows : List Row57} {i : Nat} (h : rows.length ≤ i) : groupEnd rows i = i := by
  rw [groupEnd, List.drop_of_length_le h]; rfl
theorem groupEnd_le (rows : List Row57) {i : Nat} (h : i ≤ rows.length) : i ≤ groupEnd rows i ∧ groupEnd rows i ≤ rows.length := by
  have := (List.takeWhile_sublist (p := markB) (l := rows.drop i)).length_le
  rw [List.length_drop] at this
  rw [groupEnd]; omega
/-- The groups from row i on. -/
def groupsGo (rows : List Row57) : Nat → Nat → List Span45
  | 0, _ => []
  | r + 1, i => if h : i < rows.length then (if markB rows[i] = true then ⟨(i : Int), (groupEnd rows i : Int)⟩ :: groupsGo rows r (groupEnd rows i) else groupsGo rows r (i + 1)) else []
end Go.Proofs.YthcnfflhejogfaaDoor.X
