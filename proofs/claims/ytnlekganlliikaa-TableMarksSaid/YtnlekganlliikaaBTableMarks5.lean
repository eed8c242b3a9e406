/-
  Parts of one proof, one behind the other: XStr1, XMn1, XContains, XMay, XTexts, XLcs3, XLcs4, XLcs5, XLcs6, XLcs7, XGap3, XLose.
-/
import Derived.Test.YtnlekganlliikaaBTableMarks4
import Derived.Laws.CopyOwn
import Derived.StillTailTactics
import Derived.Deep.RegionLaw
import Derived.BigRegion
import Derived.Tactics2
import Derived.Defers
import Derived.Laws.Pointers
import Derived.Laws.LoneSync
import Derived.RegionTactic
import Derived.RegionCalls
import Derived.Laws.NewBlocks
-- part XStr1
namespace Go.Proofs.Ytnlekganlliikaa.X
open Go.RowKit Go.Proofs.YtnlekganlliikaaW.PrintWords Go.Proofs.YtnlekganlliikaaW.PrintLast Go.Proofs.YtnlekganlliikaaW.PrintMore
set_option linter.unusedVariables false
set_option linter.unusedSimpArgs false
def strings_Index.f (s sub : ByteArray) : Option Int := match sub.data.toList with | [c] => some (Lib.indexByte s.data.toList c) | _ => none
theorem one_byte {sub : ByteArray} {c : UInt8} (h : sub.data.toList = [c]) : sub = ⟨#[c]⟩ := ByteArray.ext (Array.toList_inj.1 h)
theorem strings_Index.calls (a0 a1 : ByteArray) (r : Int) (w : World) (h : strings_Index.f a0 a1 = some r) : Calls Try.prog 79 #[.string a0, .string a1] w fun e w' => e = .returned (.int .i64 r) ∧ Drawn0 w w' := by
  unfold strings_Index.f at h
  split at h
  · rename_i c e
    obtain rfl := one_byte e
    have h := Option.some.inj h
    subst h
    refine (Try.strings_Index_one a0 c w).mono ?_
    rintro e w1 ⟨rfl, he⟩
    exact ⟨rfl, he ▸ Drawn0.refl _⟩
  · cases h
def strings_Contains.f (s sub : ByteArray) : Option Bool := match sub.data.toList with | [c] => some (decide (0 ≤ Lib.indexByte s.data.toList c)) | _ => none
theorem strings_Contains.calls (a0 a1 : ByteArray) (r : Bool) (w : World) (h : strings_Contains.f a0 a1 = some r) : Calls Try.prog 57 #[.string a0, .string a1] w fun e w' => e = .returned (.bool r) ∧ Drawn0 w w' := by
  unfold strings_Contains.f at h
  split at h
  · rename_i c e
    obtain rfl := one_byte e
    have h := Option.some.inj h
    subst h
    obtain ⟨q, hq⟩ : ∃ q, Lib.indexByte a0.data.toList c = q := ⟨_, rfl⟩
    rw [hq]
    have HQ := Aside0.mk hq
    clear hq
    go_enter Try.func57, Try.ntmps57
    go_wp2_with fail
    refine (Try.strings_Index_one a0 c _).mono ?_
    rintro e w1 ⟨rfl, he⟩
    obtain rfl := he.symm
    clear he
    rw [HQ.out]
    go_wp2
    go_ret
    exact ⟨rfl, Drawn0.refl _⟩
  · cases h
end Go.Proofs.Ytnlekganlliikaa.X
-- part XMn1
namespace Go.Proofs.Ytnlekganlliikaa.X
open Go.RowKit Go.Proofs.YtnlekganlliikaaW.PrintWords Go.Proofs.YtnlekganlliikaaW.PrintLast Go.Proofs.YtnlekganlliikaaW.PrintMore
attribute [local go_sem] max2_int min2_int max_two min_two max_three min_three max_four min_four   -- for this text's walks alone
set_option linter.unusedVariables false
set_option linter.unusedSimpArgs false
def lines_May.l0 : Nat → List ByteArray → List ByteArray → Int → Int → Option (Bool)
  | 0, _, _, _, _ => none
  | k + 1, x0, x7, x8, x9 => if x9 < x8 then (if 0 ≤ x9 then (if x9 < (x7.length : Int) then ((strings_Index.f (rdOf ByteArray.empty x7 x9) (⟨#[10]⟩ : ByteArray)).bind fun t102 => (if t102 < 0 then (if ((rdOf ByteArray.empty x7 x9).size : Int) > 0 then (if (x9 = (wrap64 ((x0.length : Int) - 1))) then (lines_May.l0 k x0 x7 x8 (wrap64 (x9 + 1))) else (some false)) else (some false)) else (if t102 = (wrap64 (((rdOf ByteArray.empty x7 x9).size : Int) - 1)) then (lines_May.l0 k x0 x7 x8 (wrap64 (x9 + 1))) else (some false)))) else (none)) else (none)) else (some true)
def lines_May.f (k : Nat) (l0 : List ByteArray) : Option (Bool) := lines_May.l0 k l0 l0 (l0.length : Int) 0
set_option maxHeartbeats 8000000 in
set_option maxRecDepth 100000 in
theorem lines_May.calls (k : Nat) (A0 : Option Addr) (c0 : Nat) (l0 : List ByteArray) (r : Bool) (w : World) (hr0 : Kd.C Kd.string w A0 l0.length l0) (hc0 : l0.length ≤ c0) (h : lines_May.f k l0 = some r) :
    Calls Try.prog 71 #[.slice A0 l0.length c0] w fun e w' => e = .returned (.bool r) ∧ Drawn0 w w' := by
  have HR0 := Aside0.mk hr0
  have HC0 := Aside0.mk hc0
  clear hr0 hc0
  have H : (lines_May.l0 k l0 l0 (l0.length : Int) 0) = some r := h
  clear h
  have H' := Aside0.mk H
  clear H
  go_enter Try.func71, Try.ntmps71
  go_wp2
  go_loopg [9] k (fun kq v9 w' => ∃ (x9_1 : Int), v9 = .int .i64 x9_1 ∧ Aside0 (lines_May.l0 kq l0 l0 (l0.length : Int) x9_1 = some r) ∧ Aside0 (kq ≤ k) ∧ Drawn0 w w')
  case atStart => exact ⟨(0), (by first | rfl | (simp; done) | (simp [*]; done)), H', ⟨Nat.le_refl _⟩, by repeat (first | exact Drawn0.refl _ | apply Drawn0.step)⟩
  case round =>
    clear H'
    obtain ⟨x9_1, rfl, HA, HK1, ⟨m1, rfl⟩⟩ := hrel
    cases gk with
    | zero => exact absurd HA.out (by simp [lines_May.l0])
    | succ k1 =>
      have H := HA.out
      clear HA
      simp only [lines_May.l0] at H
      by_cases c2 : x9_1 < (l0.length : Int)
      · rw [if_pos c2] at H
        have c2b0 : decide (x9_1 < (l0.length : Int)) = true := decide_eq_true c2
        clear c2
        by_cases c3 : 0 ≤ x9_1
        · rw [if_pos c3] at H
          have c3b0 : decide (0 ≤ x9_1) = true := decide_eq_true c3
          clear c3
          by_cases c4 : x9_1 < (l0.length : Int)
          · rw [if_pos c4] at H
            have c4b0 : decide (x9_1 < (l0.length : Int)) = true := decide_eq_true c4
            clear c4
            replace H := Option.bind_eq_some_iff.mp H
            obtain ⟨t102, A50, H⟩ := H
            replace H : (if t102 < 0 then (if ((rdOf ByteArray.empty l0 x9_1).size : Int) > 0 then (if (x9_1 = (wrap64 ((l0.length : Int) - 1))) then (lines_May.l0 k1 l0 l0 (l0.length : Int) (wrap64 (x9_1 + 1))) else (some false)) else (some false)) else (if t102 = (wrap64 (((rdOf ByteArray.empty l0 x9_1).size : Int) - 1)) then (lines_May.l0 k1 l0 l0 (l0.length : Int) (wrap64 (x9_1 + 1))) else (some false))) = some r := H
            have A5 := Aside0.mk A50
            clear A50
            by_cases c6 : t102 < 0
            · rw [if_pos c6] at H
              have c6b0 : decide (t102 < 0) = true := decide_eq_true c6
              clear c6
              by_cases c7 : ((rdOf ByteArray.empty l0 x9_1).size : Int) > 0
              · rw [if_pos c7] at H
                have c7b0 : decide (0 < ((rdOf ByteArray.empty l0 x9_1).size : Int)) = true := decide_eq_true c7
                have c7b1 : decide (0 < (rdOf ByteArray.empty l0 x9_1).size) = true := decide_eq_true (by omega)
                clear c7
                by_cases c8 : (x9_1 = (wrap64 ((l0.length : Int) - 1)))
                · rw [if_pos c8] at H
                  have c8b0 : (x9_1 == (wrap64 ((l0.length : Int) - 1))) = true := beq_iff_eq.mpr c8
                  have c8b1 : (x9_1 != (wrap64 ((l0.length : Int) - 1))) = false := bne_eq_false_iff_eq.mpr c8
                  clear c8
                  have H' := Aside0.mk H
                  clear H
                  have p101 : 0 ≤ (x9_1 : Int) := of_decide_eq_true (by first | (with_reducible assumption) | assumption)
                  have q101 : x9_1 < (l0.length : Int) := of_decide_eq_true (by first | (with_reducible assumption) | assumption)
                  obtain ⟨ad101, e101, hx101_0⟩ := Kd.at_string HR0.out x9_1 p101 q101
                  cases e101
                  replace p101 := eq_true p101
                  replace q101 := eq_true q101
                  go_wp2_with (first | ((with_reducible refine gate_callee (f := 79) rfl ?_); refine goesL_ (some 15) rfl rfl Try.func79 (by kernel_rfl) rfl #[.string (rdOf ByteArray.empty l0 x9_1), .string (⟨#[10]⟩ : ByteArray)] rfl (by (try simp only [List.map_toArray, List.map_cons, List.map_nil]); first | done | rfl | (simp only [List.length_drop, List.length_take]; rfl)) ?_; (with_reducible refine (strings_Index.calls (rdOf ByteArray.empty l0 x9_1) (⟨#[10]⟩ : ByteArray) t102 _ A5.out).mono ?_); rintro e w' ⟨rfl, ⟨nd, rfl⟩⟩; refine ⟨_, rfl, ?_⟩))
                  go_roundg k1
                  case measure => have := HK1.out; omega
                  case rel => exact ⟨(wrap64 (x9_1 + 1)), (by first | rfl | (simp; done) | (simp [*]; done)), H', ⟨by have := HK1.out; omega⟩, by repeat (first | exact Drawn0.refl _ | apply Drawn0.step)⟩
                · rw [if_neg c8] at H
                  have c8b0 : (x9_1 == (wrap64 ((l0.length : Int) - 1))) = false := beq_eq_false_iff_ne.mpr c8
                  have c8b1 : (x9_1 != (wrap64 ((l0.length : Int) - 1))) = true := bne_iff_ne.mpr c8
                  obtain rfl := Option.some.inj H
                  have p101 : 0 ≤ (x9_1 : Int) := of_decide_eq_true (by first | (with_reducible assumption) | assumption)
                  have q101 : x9_1 < (l0.length : Int) := of_decide_eq_true (by first | (with_reducible assumption) | assumption)
                  obtain ⟨ad101, e101, hx101_0⟩ := Kd.at_string HR0.out x9_1 p101 q101
                  cases e101
                  replace p101 := eq_true p101
                  replace q101 := eq_true q101
                  go_wp2_with (first | ((with_reducible refine gate_callee (f := 79) rfl ?_); refine goesL_ (some 15) rfl rfl Try.func79 (by kernel_rfl) rfl #[.string (rdOf ByteArray.empty l0 x9_1), .string (⟨#[10]⟩ : ByteArray)] rfl (by (try simp only [List.map_toArray, List.map_cons, List.map_nil]); first | done | rfl | (simp only [List.length_drop, List.length_take]; rfl)) ?_; (with_reducible refine (strings_Index.calls (rdOf ByteArray.empty l0 x9_1) (⟨#[10]⟩ : ByteArray) t102 _ A5.out).mono ?_); rintro e w' ⟨rfl, ⟨nd, rfl⟩⟩; refine ⟨_, rfl, ?_⟩))
                  go_ret
                  exact ⟨by first | rfl | (simp; done) | (simp [*]; done), by repeat (first | exact Drawn0.refl _ | apply Drawn0.step)⟩
              · rw [if_neg c7] at H
                have c7b0 : decide (0 < ((rdOf ByteArray.empty l0 x9_1).size : Int)) = false := decide_eq_false c7
                have c7b1 : decide (0 < (rdOf ByteArray.empty l0 x9_1).size) = false := decide_eq_false (by omega)
                clear c7
                obtain rfl := Option.some.inj H
                have p101 : 0 ≤ (x9_1 : Int) := of_decide_eq_true (by first | (with_reducible assumption) | assumption)
                have q101 : x9_1 < (l0.length : Int) := of_decide_eq_true (by first | (with_reducible assumption) | assumption)
                obtain ⟨ad101, e101, hx101_0⟩ := Kd.at_string HR0.out x9_1 p101 q101
                cases e101
                replace p101 := eq_true p101
                replace q101 := eq_true q101
                go_wp2_with (first | ((with_reducible refine gate_callee (f := 79) rfl ?_); refine goesL_ (some 15) rfl rfl Try.func79 (by kernel_rfl) rfl #[.string (rdOf ByteArray.empty l0 x9_1), .string (⟨#[10]⟩ : ByteArray)] rfl (by (try simp only [List.map_toArray, List.map_cons, List.map_nil]); first | done | rfl | (simp only [List.length_drop, List.length_take]; rfl)) ?_; (with_reducible refine (strings_Index.calls (rdOf ByteArray.empty l0 x9_1) (⟨#[10]⟩ : ByteArray) t102 _ A5.out).mono ?_); rintro e w' ⟨rfl, ⟨nd, rfl⟩⟩; refine ⟨_, rfl, ?_⟩))
                go_ret
                exact ⟨by first | rfl | (simp; done) | (simp [*]; done), by repeat (first | exact Drawn0.refl _ | apply Drawn0.step)⟩
            · rw [if_neg c6] at H
              have c6b0 : decide (t102 < 0) = false := decide_eq_false c6
              clear c6
              by_cases c9 : t102 = (wrap64 (((rdOf ByteArray.empty l0 x9_1).size : Int) - 1))
              · rw [if_pos c9] at H
                have c9b0 : (t102 == (wrap64 (((rdOf ByteArray.empty l0 x9_1).size : Int) - 1))) = true := beq_iff_eq.mpr c9
                have c9b1 : (t102 != (wrap64 (((rdOf ByteArray.empty l0 x9_1).size : Int) - 1))) = false := bne_eq_false_iff_eq.mpr c9
                clear c9
                have H' := Aside0.mk H
                clear H
                have p101 : 0 ≤ (x9_1 : Int) := of_decide_eq_true (by first | (with_reducible assumption) | assumption)
                have q101 : x9_1 < (l0.length : Int) := of_decide_eq_true (by first | (with_reducible assumption) | assumption)
                obtain ⟨ad101, e101, hx101_0⟩ := Kd.at_string HR0.out x9_1 p101 q101
                cases e101
                replace p101 := eq_true p101
                replace q101 := eq_true q101
                go_wp2_with (first | ((with_reducible refine gate_callee (f := 79) rfl ?_); refine goesL_ (some 15) rfl rfl Try.func79 (by kernel_rfl) rfl #[.string (rdOf ByteArray.empty l0 x9_1), .string (⟨#[10]⟩ : ByteArray)] rfl (by (try simp only [List.map_toArray, List.map_cons, List.map_nil]); first | done | rfl | (simp only [List.length_drop, List.length_take]; rfl)) ?_; (with_reducible refine (strings_Index.calls (rdOf ByteArray.empty l0 x9_1) (⟨#[10]⟩ : ByteArray) t102 _ A5.out).mono ?_); rintro e w' ⟨rfl, ⟨nd, rfl⟩⟩; refine ⟨_, rfl, ?_⟩))
                go_roundg k1
                case measure => have := HK1.out; omega
                case rel => exact ⟨(wrap64 (x9_1 + 1)), (by first | rfl | (simp; done) | (simp [*]; done)), H', ⟨by have := HK1.out; omega⟩, by repeat (first | exact Drawn0.refl _ | apply Drawn0.step)⟩
              · rw [if_neg c9] at H
                have c9b0 : (t102 == (wrap64 (((rdOf ByteArray.empty l0 x9_1).size : Int) - 1))) = false := beq_eq_false_iff_ne.mpr c9
                have c9b1 : (t102 != (wrap64 (((rdOf ByteArray.empty l0 x9_1).size : Int) - 1))) = true := bne_iff_ne.mpr c9
                obtain rfl := Option.some.inj H
                have p101 : 0 ≤ (x9_1 : Int) := of_decide_eq_true (by first | (with_reducible assumption) | assumption)
                have q101 : x9_1 < (l0.length : Int) := of_decide_eq_true (by first | (with_reducible assumption) | assumption)
                obtain ⟨ad101, e101, hx101_0⟩ := Kd.at_string HR0.out x9_1 p101 q101
                cases e101
                replace p101 := eq_true p101
                replace q101 := eq_true q101
                go_wp2_with (first | ((with_reducible refine gate_callee (f := 79) rfl ?_); refine goesL_ (some 15) rfl rfl Try.func79 (by kernel_rfl) rfl #[.string (rdOf ByteArray.empty l0 x9_1), .string (⟨#[10]⟩ : ByteArray)] rfl (by (try simp only [List.map_toArray, List.map_cons, List.map_nil]); first | done | rfl | (simp only [List.length_drop, List.length_take]; rfl)) ?_; (with_reducible refine (strings_Index.calls (rdOf ByteArray.empty l0 x9_1) (⟨#[10]⟩ : ByteArray) t102 _ A5.out).mono ?_); rintro e w' ⟨rfl, ⟨nd, rfl⟩⟩; refine ⟨_, rfl, ?_⟩))
                go_ret
                exact ⟨by first | rfl | (simp; done) | (simp [*]; done), by repeat (first | exact Drawn0.refl _ | apply Drawn0.step)⟩
          · rw [if_neg c4] at H
            exact absurd H (by simp)
        · rw [if_neg c3] at H
          exact absurd H (by simp)
      · rw [if_neg c2] at H
        have c2b0 : decide (x9_1 < (l0.length : Int)) = false := decide_eq_false c2
        clear c2
        obtain rfl := Option.some.inj H
        go_wp2
        go_ret
        exact ⟨by first | rfl | (simp; done) | (simp [*]; done), by repeat (first | exact Drawn0.refl _ | apply Drawn0.step)⟩

def table_Lost.f (a0_0 : ByteArray) (a0_1 : ByteArray) : Option (Bool) := (strings_Contains.f a0_0 (⟨#[45]⟩ : ByteArray)).bind fun t104 => (some t104)
set_option maxHeartbeats 8000000 in
set_option maxRecDepth 100000 in
theorem table_Lost.calls (a0_0 : ByteArray) (a0_1 : ByteArray) (r : Bool) (w : World) (h : table_Lost.f a0_0 a0_1 = some r) :
    Calls Try.prog 32 #[.agg #[.string a0_0, .string a0_1]] w fun e w' => e = .returned (.bool r) ∧ Below w.heap.size w w' := by
  have hu37 := Try.underlying37
  have HB := Aside0.mk (Below.refl w.heap.size w)
  have H : ((strings_Contains.f a0_0 (⟨#[45]⟩ : ByteArray)).bind fun t104 => (some t104)) = some r := h
  clear h
  replace H := Option.bind_eq_some_iff.mp H
  obtain ⟨t104, A20, H⟩ := H
  replace H : (some t104) = some r := H
  have A2 := Aside0.mk A20
  clear A20
  obtain rfl := Option.some.inj H
  go_enter Try.func32, Try.ntmps32
  go_wp2_with (first | ((with_reducible refine gate_dst (N := 1) rfl ?_); refine box_event ?hg (N := 1) ?hd (cs := #[.string a0_0, .string a0_1]) (t := 37) ?hr ?_; (case hd => rfl); (case hg => rfl); (case hr => first | (go_simp; done) | (go_simp; rfl)); intro gb103 hg w3 hbox hb; have n0_ := Aside0.mk (below_step (by repeat (first | (with_reducible first | exact HB.out | apply below_alloc | apply pw_below_drewN | apply below_drew1) | exact HB.out)) hb); have n1_ := Aside0.mk (hbox); have n2_ := Aside0.mk ((by rw [hg]; exact (below_size (by repeat (first | (with_reducible first | exact HB.out | apply below_alloc | apply pw_below_drewN | apply below_drew1) | exact HB.out))) : w.heap.size ≤ gb103)); have n3_ := Aside0.mk ((by rw [hg]; exact (below_size (by repeat (first | (with_reducible first | exact HB.out | apply below_alloc | apply pw_below_drewN | apply below_drew1) | exact HB.out))) : w.heap.size ≤ gb103)); clear HB; have HB := n0_; have BK103 := n1_; have GW103 := n2_; have GE103 := n3_; clear n0_ n1_ n2_ n3_; clear hb hbox hg; have hcz4_0 : w3.cell? ⟨gb103, 0, none⟩ = some (.string a0_0) := (blk_cell BK103.out 0).trans rfl; have hcz4_1 : w3.cell? ⟨gb103, 1, none⟩ = some (.string a0_1) := (blk_cell BK103.out 1).trans rfl; have hfz4_0 := blk_frozen BK103.out 0; have hfz4_1 := blk_frozen BK103.out 1) | ((with_reducible refine gate_callee (f := 57) rfl ?_); refine goesL_ (some 5) rfl rfl Try.func57 (by kernel_rfl) rfl #[.string a0_0, .string (⟨#[45]⟩ : ByteArray)] rfl (by (try simp only [List.map_toArray, List.map_cons, List.map_nil]); first | done | rfl | (simp only [List.length_drop, List.length_take]; rfl)) ?_; (with_reducible refine (strings_Contains.calls a0_0 (⟨#[45]⟩ : ByteArray) t104 _ A2.out).mono ?_); rintro e w' ⟨rfl, ⟨nd, rfl⟩⟩; refine ⟨_, rfl, ?_⟩))
  go_ret
  exact ⟨by first | rfl | (simp [errW_none, errW_some] <;> rfl) | (simp [*, errW_none, errW_some] <;> rfl), by repeat (first | (with_reducible first | exact HB.out | apply below_alloc | apply pw_below_drewN | apply below_drew1 | refine below_set ?_ GE103.out) | exact HB.out)⟩

end Go.Proofs.Ytnlekganlliikaa.X
-- part XContains
namespace Go.Proofs.Ytnlekganlliikaa.X
open Go.RowKit Go.Proofs.YtnlekganlliikaaW.PrintWords Go.Proofs.YtnlekganlliikaaW.PrintLast Go.Proofs.YtnlekganlliikaaW.PrintMore
set_option linter.unusedVariables false
set_option linter.unusedSimpArgs false
/-- A function that asks something of a list of texts, and only reads. -/
def Asks (fn : Nat) (p : List ByteArray → Bool) (L : List (List ByteArray)) : Prop :=
  ∀ (l : List ByteArray), l ∈ L → ∀ (A : Option Addr) (c : Nat) (w : World), Kd.C Kd.string w A l.length l → l.length ≤ c → Calls Try.prog fn #[.slice A l.length c] w fun e w' => e = .returned (.bool (p l)) ∧ Drawn0 w w'
/-- The first place whose list is so; -1: none. -/
def findL (p : List ByteArray → Bool) (L : List (List ByteArray)) : Int := match L.findIdx? p with | some i => (i : Int) | none => -1
theorem find_go {p : List ByteArray → Bool} {L : List (List ByteArray)} {k : Nat} (hk : k < L.length) (h : ∀ l ∈ L.take k, p l = false) (hp : p L[k] = true) : findL p L = (k : Int) := by
  have : L.findIdx? p = some k := by
    rw [List.findIdx?_eq_some_iff_getElem]
    exact ⟨hk, hp, fun j hj => by
      have : L[j] ∈ L.take k := by
        rw [List.mem_take_iff_getElem]; exact ⟨j, by omega, rfl⟩
      rw [h _ this]; decide⟩
  rw [findL, this]
theorem find_none {p : List ByteArray → Bool} {L : List (List ByteArray)} (h : ∀ l ∈ L, p l = false) : findL p L = -1 := by
  have : L.findIdx? p = none := List.findIdx?_eq_none_iff.2 (fun x hx => by rw [h x hx])
  rw [findL, this]
set_option maxRecDepth 100000 in
set_option maxHeartbeats 2000000 in
theorem indexFunc_1 (p : List ByteArray → Bool) (A : Option Addr) (c : Nat) (L : List (List ByteArray)) (w : World) (hp : Asks 70 p L) (hC : Kd.C (Kd.slice 9 Kd.string) w A L.length L) (hc : L.length ≤ c) (hL : L.length ≤ 1000000) :
    Calls Try.prog 84 #[.slice A L.length c, .func (.func 70) #[] #[]] w fun e w' => e = .returned (.int .i64 (findL p L)) ∧ Drawn0 w w' := by
  have HC := Aside0.mk hC
  have HP := Aside0.mk hp
  clear hC hp
  go_enter Try.func84, Try.ntmps84
  go_wp2_with fail
  go_loopw [8, 5] (fun i _ wr => ∃ (k : Nat), k ≤ L.length ∧ i = .int .i64 k ∧ Aside0 (∀ l ∈ L.take k, p l = false) ∧ Aside0 (Drawn0 w wr)) (fun i _ _ => L.length - (intOf i).toNat)
  case atStart => exact ⟨0, Nat.zero_le _, rfl, ⟨by simp⟩, ⟨Drawn0.refl _⟩⟩
  case round =>
    obtain ⟨k, hk, rfl, HF, HD⟩ := hrel
    by_cases hlt : k < L.length
    · obtain ⟨ad, A5, c5, rfl, hrow, hc5, hC5⟩ := at_slice HC.out k hlt
      obtain ⟨n, hn⟩ := HD.out
      subst hn
      replace hrow : (w.drewN n).cell? (ad.add k) = some (.slice A5 (L.getD k []).length c5) := by simpa using hrow
      obtain ⟨l, hle⟩ : ∃ l, L.getD k [] = l := ⟨_, rfl⟩
      have hlm : l ∈ L := by rw [← hle, getD_get hlt]; exact List.getElem_mem hlt
      have hlk : L[k] = l := by rw [← hle, getD_get hlt]
      have HLK := Aside0.mk hlk
      rw [hle] at hrow hc5 hC5
      have HC5 : Aside0 (Kd.C Kd.string (w.drewN n) A5 l.length l) := ⟨Kd.C_drewN hC5 _⟩
      have Hc5 := Aside0.mk hc5
      have HLM := Aside0.mk hlm
      clear hc5 hC5 hle hlm hlk
      cases hpl : p l
      · have HPL := Aside0.mk hpl
        clear hpl
        go_wp2_with fail
        refine (HP.out l HLM.out A5 c5 _ HC5.out Hc5.out).mono ?_
        rintro e' w' ⟨rfl, n2, rfl⟩
        rw [HPL.out]
        go_wp2
        go_roundw
        case measure => simp [intOf]; omega
        case rel => exact ⟨k + 1, by omega, by go_num, ⟨fun y hy => by
          rw [← List.take_append_getElem hlt] at hy
          rcases List.mem_append.1 hy with hy | hy
          · exact HF.out y hy
          · rw [List.mem_singleton.1 hy, HLK.out]; exact HPL.out⟩, ⟨by first | exact ⟨_, rfl⟩ | exact ⟨_, World.drewN_drewN _ _ _⟩⟩⟩
      · have HPL := Aside0.mk hpl
        clear hpl
        have HFK : Aside0 (findL p L = (k : Int)) := ⟨find_go hlt HF.out (by rw [HLK.out]; exact HPL.out)⟩
        go_wp2_with fail
        refine (HP.out l HLM.out A5 c5 _ HC5.out Hc5.out).mono ?_
        rintro e' w' ⟨rfl, n2, rfl⟩
        rw [HPL.out]
        go_wp2
        go_ret
        exact ⟨by rw [HFK.out]; rfl, by first | exact ⟨_, rfl⟩ | exact ⟨_, World.drewN_drewN _ _ _⟩⟩
    · have hk' : k = L.length := by omega
      subst hk'
      rw [List.take_length] at HF
      have HFN := Aside0.mk (find_none HF.out)
      have HD' := HD.out
      go_wp2
      go_ret
      exact ⟨by rw [HFN.out]; rfl, HD'⟩
theorem containsFunc_1 (p : List ByteArray → Bool) (A : Option Addr) (c : Nat) (L : List (List ByteArray)) (w : World) (hp : Asks 70 p L) (hC : Kd.C (Kd.slice 9 Kd.string) w A L.length L) (hc : L.length ≤ c) (hL : L.length ≤ 1000000) :
    Calls Try.prog 73 #[.slice A L.length c, .func (.func 70) #[] #[]] w fun e w' => e = .returned (.bool (L.any p)) ∧ Drawn0 w w' := by
  obtain ⟨q, hq⟩ : ∃ q, findL p L = q := ⟨_, rfl⟩
  have hany : L.any p = decide (q ≥ 0) := by
    rw [← hq, findL]
    cases h : L.findIdx? p with
    | none =>
      have := List.findIdx?_eq_none_iff.1 h
      show _ = false
      rw [List.any_eq_false]
      exact fun x hx => by rw [this x hx]; decide
    | some i =>
      obtain ⟨hi, h1, _⟩ := List.findIdx?_eq_some_iff_getElem.1 h
      have : decide ((i : Int) ≥ 0) = true := decide_eq_true (by omega)
      show _ = decide ((i : Int) ≥ 0)
      rw [this, List.any_eq_true]
      exact ⟨_, List.getElem_mem hi, h1⟩
  have HANY := Aside0.mk hany
  have HQ := Aside0.mk hq
  have HC := Aside0.mk hC
  have HP := Aside0.mk hp
  clear hany hq hC hp
  go_enter Try.func73, Try.ntmps73
  go_wp2_with fail
  refine (indexFunc_1 p A c L _ HP.out HC.out hc hL).mono ?_
  rintro e w1 ⟨rfl, n, rfl⟩
  rw [HQ.out]
  go_wp2
  go_ret
  exact ⟨by rw [HANY.out]; rfl, ⟨n, rfl⟩⟩

set_option maxRecDepth 100000 in
set_option maxHeartbeats 2000000 in
theorem indexFunc_2 (p : List ByteArray → Bool) (A : Option Addr) (c : Nat) (L : List (List ByteArray)) (w : World) (hp : Asks 72 p L) (hC : Kd.C (Kd.slice 9 Kd.string) w A L.length L) (hc : L.length ≤ c) (hL : L.length ≤ 1000000) :
    Calls Try.prog 84 #[.slice A L.length c, .func (.func 72) #[] #[]] w fun e w' => e = .returned (.int .i64 (findL p L)) ∧ Drawn0 w w' := by
  have HC := Aside0.mk hC
  have HP := Aside0.mk hp
  clear hC hp
  go_enter Try.func84, Try.ntmps84
  go_wp2_with fail
  go_loopw [8, 5] (fun i _ wr => ∃ (k : Nat), k ≤ L.length ∧ i = .int .i64 k ∧ Aside0 (∀ l ∈ L.take k, p l = false) ∧ Aside0 (Drawn0 w wr)) (fun i _ _ => L.length - (intOf i).toNat)
  case atStart => exact ⟨0, Nat.zero_le _, rfl, ⟨by simp⟩, ⟨Drawn0.refl _⟩⟩
  case round =>
    obtain ⟨k, hk, rfl, HF, HD⟩ := hrel
    by_cases hlt : k < L.length
    · obtain ⟨ad, A5, c5, rfl, hrow, hc5, hC5⟩ := at_slice HC.out k hlt
      obtain ⟨n, hn⟩ := HD.out
      subst hn
      replace hrow : (w.drewN n).cell? (ad.add k) = some (.slice A5 (L.getD k []).length c5) := by simpa using hrow
      obtain ⟨l, hle⟩ : ∃ l, L.getD k [] = l := ⟨_, rfl⟩
      have hlm : l ∈ L := by rw [← hle, getD_get hlt]; exact List.getElem_mem hlt
      have hlk : L[k] = l := by rw [← hle, getD_get hlt]
      have HLK := Aside0.mk hlk
      rw [hle] at hrow hc5 hC5
      have HC5 : Aside0 (Kd.C Kd.string (w.drewN n) A5 l.length l) := ⟨Kd.C_drewN hC5 _⟩
      have Hc5 := Aside0.mk hc5
      have HLM := Aside0.mk hlm
      clear hc5 hC5 hle hlm hlk
      cases hpl : p l
      · have HPL := Aside0.mk hpl
        clear hpl
        go_wp2_with fail
        refine (HP.out l HLM.out A5 c5 _ HC5.out Hc5.out).mono ?_
        rintro e' w' ⟨rfl, n2, rfl⟩
        rw [HPL.out]
        go_wp2
        go_roundw
        case measure => simp [intOf]; omega
        case rel => exact ⟨k + 1, by omega, by go_num, ⟨fun y hy => by
          rw [← List.take_append_getElem hlt] at hy
          rcases List.mem_append.1 hy with hy | hy
          · exact HF.out y hy
          · rw [List.mem_singleton.1 hy, HLK.out]; exact HPL.out⟩, ⟨by first | exact ⟨_, rfl⟩ | exact ⟨_, World.drewN_drewN _ _ _⟩⟩⟩
      · have HPL := Aside0.mk hpl
        clear hpl
        have HFK : Aside0 (findL p L = (k : Int)) := ⟨find_go hlt HF.out (by rw [HLK.out]; exact HPL.out)⟩
        go_wp2_with fail
        refine (HP.out l HLM.out A5 c5 _ HC5.out Hc5.out).mono ?_
        rintro e' w' ⟨rfl, n2, rfl⟩
        rw [HPL.out]
        go_wp2
        go_ret
        exact ⟨by rw [HFK.out]; rfl, by first | exact ⟨_, rfl⟩ | exact ⟨_, World.drewN_drewN _ _ _⟩⟩
    · have hk' : k = L.length := by omega
      subst hk'
      rw [List.take_length] at HF
      have HFN := Aside0.mk (find_none HF.out)
      have HD' := HD.out
      go_wp2
      go_ret
      exact ⟨by rw [HFN.out]; rfl, HD'⟩
theorem containsFunc_2 (p : List ByteArray → Bool) (A : Option Addr) (c : Nat) (L : List (List ByteArray)) (w : World) (hp : Asks 72 p L) (hC : Kd.C (Kd.slice 9 Kd.string) w A L.length L) (hc : L.length ≤ c) (hL : L.length ≤ 1000000) :
    Calls Try.prog 73 #[.slice A L.length c, .func (.func 72) #[] #[]] w fun e w' => e = .returned (.bool (L.any p)) ∧ Drawn0 w w' := by
  obtain ⟨q, hq⟩ : ∃ q, findL p L = q := ⟨_, rfl⟩
  have hany : L.any p = decide (q ≥ 0) := by
    rw [← hq, findL]
    cases h : L.findIdx? p with
    | none =>
      have := List.findIdx?_eq_none_iff.1 h
      show _ = false
      rw [List.any_eq_false]
      exact fun x hx => by rw [this x hx]; decide
    | some i =>
      obtain ⟨hi, h1, _⟩ := List.findIdx?_eq_some_iff_getElem.1 h
      have : decide ((i : Int) ≥ 0) = true := decide_eq_true (by omega)
      show _ = decide ((i : Int) ≥ 0)
      rw [this, List.any_eq_true]
      exact ⟨_, List.getElem_mem hi, h1⟩
  have HANY := Aside0.mk hany
  have HQ := Aside0.mk hq
  have HC := Aside0.mk hC
  have HP := Aside0.mk hp
  clear hany hq hC hp
  go_enter Try.func73, Try.ntmps73
  go_wp2_with fail
  refine (indexFunc_2 p A c L _ HP.out HC.out hc hL).mono ?_
  rintro e w1 ⟨rfl, n, rfl⟩
  rw [HQ.out]
  go_wp2
  go_ret
  exact ⟨by rw [HANY.out]; rfl, ⟨n, rfl⟩⟩

def longL (l : List ByteArray) : Bool := decide (2000 < l.length)
theorem wrong_long (L : List (List ByteArray)) (hL : ∀ l ∈ L, l.length ≤ 1000000000000) : Asks 72 longL L := by
  intro l hl A c w hC hc
  have hb := hL l hl
  have hb2 : (l.length : Int) ≤ 1000000000000 := by omega
  by_cases h : 2000 < l.length
  · rw [longL, decide_eq_true h]
    go_enter Try.func72, Try.ntmps72
    go_wp2
    go_ret
    exact ⟨by simp; omega, Drawn0.refl _⟩
  · rw [longL, decide_eq_false h]
    go_enter Try.func72, Try.ntmps72
    go_wp2
    go_ret
    exact ⟨by simp; omega, Drawn0.refl _⟩
theorem wrong_odd (may : List ByteArray → Bool) (L : List (List ByteArray)) (hm : ∀ l ∈ L, Gives (fun k => lines_May.f k l) (may l)) : Asks 70 (fun l => !may l) L := by
  intro l hl A c w hC hc
  obtain ⟨k, hk⟩ := hm l hl
  have hk := hk k (Nat.le_refl _)
  have HK := Aside0.mk hk
  have HC := Aside0.mk hC
  clear hk hC hm
  have HK : Aside0 (lines_May.f k l = some (may l)) := HK
  show Calls _ _ _ _ fun e w' => e = .returned (.bool (!may l)) ∧ Drawn0 w w'
  obtain ⟨m, hm⟩ : ∃ m, may l = m := ⟨_, rfl⟩
  rw [hm] at HK ⊢
  clear hm
  go_enter Try.func70, Try.ntmps70
  go_wp2_with fail
  refine (lines_May.calls k A c l m _ HC.out hc HK.out).mono ?_
  rintro e w1 ⟨rfl, n, rfl⟩
  go_wp2
  go_ret
  exact ⟨rfl, ⟨n, rfl⟩⟩
def wrongF (may : List ByteArray → Bool) (L : List (List ByteArray)) : Int :=
  if L.length < 2 ∨ 17 < L.length then 1 else if L.any (fun l => !may l) = true then 2 else if L.any longL = true then 4 else 0
set_option maxHeartbeats 2000000 in
theorem wrong_calls (may : List ByteArray → Bool) (A : Option Addr) (c : Nat) (L : List (List ByteArray)) (w : World) (hm : ∀ l ∈ L, Gives (fun k => lines_May.f k l) (may l)) (hl : ∀ l ∈ L, l.length ≤ 1000000000000) (hC : Kd.C (Kd.slice 9 Kd.string) w A L.length L) (hc : L.length ≤ c) (hL : L.length ≤ 1000000) :
    Calls Try.prog 44 #[.slice A L.length c] w fun e w' => e = .returned (.int .i64 (wrongF may L)) ∧ Drawn0 w w' := by
  have HC := Aside0.mk hC
  have H1 := Aside0.mk (wrong_odd may L hm)
  have H2 := Aside0.mk (wrong_long L hl)
  clear hC hm hl
  obtain ⟨n, hn⟩ : ∃ n, L.length = n := ⟨_, rfl⟩
  have HN := Aside0.mk hn
  unfold wrongF
  have hcall1 : ∀ (p : List ByteArray → Bool) (W : World), Asks 70 p L → Kd.C (Kd.slice 9 Kd.string) W A L.length L → Calls Try.prog 73 #[.slice A n c, .func (.func 70) #[] #[]] W fun e w' => e = .returned (.bool (L.any p)) ∧ Drawn0 W w' := by
    intro p W h1 h2
    rw [← hn]
    exact containsFunc_1 p A c L W h1 h2 hc hL
  have HCALL1 := Aside0.mk hcall1
  have hcall2 : ∀ (p : List ByteArray → Bool) (W : World), Asks 72 p L → Kd.C (Kd.slice 9 Kd.string) W A L.length L → Calls Try.prog 73 #[.slice A n c, .func (.func 72) #[] #[]] W fun e w' => e = .returned (.bool (L.any p)) ∧ Drawn0 W w' := by
    intro p W h1 h2
    rw [← hn]
    exact containsFunc_2 p A c L W h1 h2 hc hL
  have HCALL2 := Aside0.mk hcall2
  obtain ⟨b1, hb1⟩ : ∃ b, L.any (fun l => !may l) = b := ⟨_, rfl⟩
  obtain ⟨b2, hb2⟩ : ∃ b, L.any longL = b := ⟨_, rfl⟩
  rw [hb1, hb2, hn]
  rw [hn] at hc hL
  have HB1 := Aside0.mk hb1
  have HB2 := Aside0.mk hb2
  clear hb1 hb2 hn hcall1 hcall2
  by_cases h2 : n < 2
  · have d1 : decide ((n : Int) < 2) = true := decide_eq_true (by omega)
    rw [if_pos (.inl h2)]
    go_enter Try.func44, Try.ntmps44
    go_wp2
    go_ret
    exact ⟨rfl, Drawn0.refl _⟩
  · have d1 : decide ((n : Int) < 2) = false := decide_eq_false (by omega)
    by_cases h17 : 17 < n
    · have d2 : decide (17 < (n : Int)) = true := decide_eq_true (by omega)
      rw [if_pos (.inr h17)]
      go_enter Try.func44, Try.ntmps44
      go_wp2
      go_ret
      exact ⟨rfl, Drawn0.refl _⟩
    · have d2 : decide (17 < (n : Int)) = false := decide_eq_false (by omega)
      rw [if_neg (by omega)]
      cases b1
      · cases b2
        all_goals
          go_enter Try.func44, Try.ntmps44
          go_wp2_with fail
          refine (HCALL1.out _ _ H1.out HC.out).mono ?_
          rintro e w1 ⟨rfl, n1, rfl⟩
          rw [HB1.out]
          go_wp2_with fail
          refine (HCALL2.out _ _ H2.out (Kd.C_drewN HC.out _)).mono ?_
          rintro e w1 ⟨rfl, n2, rfl⟩
          rw [HB2.out]
          go_wp2
          go_ret
          exact ⟨rfl, by first | exact ⟨_, rfl⟩ | exact ⟨_, World.drewN_drewN _ _ _⟩⟩
      · go_enter Try.func44, Try.ntmps44
        go_wp2_with fail
        refine (HCALL1.out _ _ H1.out HC.out).mono ?_
        rintro e w1 ⟨rfl, n1, rfl⟩
        rw [HB1.out]
        go_wp2
        go_ret
        exact ⟨rfl, ⟨_, rfl⟩⟩
end Go.Proofs.Ytnlekganlliikaa.X
-- part XMay
namespace Go.Proofs.Ytnlekganlliikaa.X
open Go.RowKit Go.Proofs.YtnlekganlliikaaW.PrintWords Go.Proofs.YtnlekganlliikaaW.PrintLast Go.Proofs.YtnlekganlliikaaW.PrintMore
set_option linter.unusedVariables false
set_option linter.unusedSimpArgs false
/-- May a text be a line: ended, or not. -/
def lineClosed (s : ByteArray) : Bool := decide (0 ≤ Lib.indexByte s.data.toList 10 ∧ Lib.indexByte s.data.toList 10 = (s.size : Int) - 1)
def lineOpen (s : ByteArray) : Bool := decide (Lib.indexByte s.data.toList 10 < 0 ∧ 0 < s.size)
def mayL : List ByteArray → Bool
  | [] => true
  | s :: t => (lineClosed s || (lineOpen s && t.isEmpty)) && mayL t
theorem may_l0 (l : List ByteArray) (hl : l.length ≤ 1000000000000) (hz : ∀ s ∈ l, s.size ≤ 1000000000000000) : ∀ (r i : Nat), i + r = l.length → Gives (fun k => lines_May.l0 k l l (l.length : Int) (i : Int)) (mayL (l.drop i))
  | 0, i, hi => Gives.of fun k => by
    show lines_May.l0 (k + 1) l l (l.length : Int) (i : Int) = _
    rw [lines_May.l0, if_neg (by omega), List.drop_of_length_le (by omega)]
    rfl
  | r + 1, i, hi => by
    have hil : i < l.length := by omega
    have hzi := hz l[i] (List.getElem_mem _)
    have ih := may_l0 l hl hz r (i + 1) (by omega)
    have e : ∀ k, lines_May.l0 (k + 1) l l (l.length : Int) (i : Int) = if Lib.indexByte l[i].data.toList 10 < 0 then (if (l[i].size : Int) > 0 then (if (i : Int) = (l.length : Int) - 1 then lines_May.l0 k l l (l.length : Int) ((i + 1 : Nat) : Int) else some false) else some false) else (if Lib.indexByte l[i].data.toList 10 = (l[i].size : Int) - 1 then lines_May.l0 k l l (l.length : Int) ((i + 1 : Nat) : Int) else some false) := fun k => by
      rw [lines_May.l0, if_pos (by omega), if_pos (by omega), if_pos (by omega), rdOfN hil, gw1 (by omega), gw (by omega) (by omega), gw (by omega) (by omega)]
      rfl
    have hle : ((l.drop (i + 1)).isEmpty = true) ↔ i + 1 = l.length := by
      rw [List.isEmpty_iff, List.drop_eq_nil_iff]; omega
    rw [dropCons hil, mayL]
    by_cases h1 : Lib.indexByte l[i].data.toList 10 < 0
    · have hc : lineClosed l[i] = false := decide_eq_false (by omega)
      rw [hc, Bool.false_or]
      by_cases h2 : 0 < l[i].size
      · have ho : lineOpen l[i] = true := decide_eq_true ⟨h1, h2⟩
        rw [ho, Bool.true_and]
        by_cases h3 : i + 1 = l.length
        · rw [hle.2 h3, Bool.true_and]
          exact ih.step fun k => by
            show lines_May.l0 (k + 1) l l (l.length : Int) (i : Int) = _
            rw [e k, if_pos h1, if_pos (by omega), if_pos (by omega)]
        · have : (l.drop (i + 1)).isEmpty = false := by
            cases hh : (l.drop (i + 1)).isEmpty
            · rfl
            · exact absurd (hle.1 hh) h3
          rw [this, Bool.false_and]
          exact Gives.of fun k => by
            show lines_May.l0 (k + 1) l l (l.length : Int) (i : Int) = _
            rw [e k, if_pos h1, if_pos (by omega), if_neg (by omega)]
      · have ho : lineOpen l[i] = false := decide_eq_false (by omega)
        rw [ho, Bool.false_and, Bool.false_and]
        exact Gives.of fun k => by
          show lines_May.l0 (k + 1) l l (l.length : Int) (i : Int) = _
          rw [e k, if_pos h1, if_neg (by omega)]
    · have ho : lineOpen l[i] = false := decide_eq_false (by omega)
      rw [ho, Bool.false_and, Bool.or_false]
      by_cases h2 : Lib.indexByte l[i].data.toList 10 = (l[i].size : Int) - 1
      · have hc : lineClosed l[i] = true := decide_eq_true ⟨by omega, h2⟩
        rw [hc, Bool.true_and]
        exact ih.step fun k => by
          show lines_May.l0 (k + 1) l l (l.length : Int) (i : Int) = _
          rw [e k, if_neg h1, if_pos h2]
      · have hc : lineClosed l[i] = false := decide_eq_false (by omega)
        rw [hc, Bool.false_and]
        exact Gives.of fun k => by
          show lines_May.l0 (k + 1) l l (l.length : Int) (i : Int) = _
          rw [e k, if_neg h1, if_neg h2]
theorem may_gives (l : List ByteArray) (hl : l.length ≤ 1000000000000) (hz : ∀ s ∈ l, s.size ≤ 1000000000000000) : Gives (fun k => lines_May.f k l) (mayL l) :=
  (may_l0 l hl hz l.length 0 (by omega)).same fun k => rfl
end Go.Proofs.Ytnlekganlliikaa.X
-- part XTexts
namespace Go.Proofs.Ytnlekganlliikaa.X
open Go.RowKit Go.Proofs.YtnlekganlliikaaW.PrintWords Go.Proofs.YtnlekganlliikaaW.PrintLast Go.Proofs.YtnlekganlliikaaW.PrintMore
set_option linter.unusedVariables false
set_option linter.unusedSimpArgs false
/-- Is a row lost? -/
def lostB (s : ByteArray) : Bool := decide (0 ≤ Lib.indexByte s.data.toList 45)
theorem table_lost (x0 x1 : ByteArray) (w : World) : Calls Try.prog 32 #[.agg #[.string x0, .string x1]] w fun e w' => e = .returned (.bool (lostB x0)) ∧ Below w.heap.size w w' :=
  table_Lost.calls x0 x1 (lostB x0) w rfl
theorem ask_Result (x0 x1 : ByteArray) (w : World) : Calls Try.prog 53 #[.agg #[.string x0, .string x1]] w fun e w' => e = .returned (.bool (!lostB x0)) ∧ Aside0 (Below w.heap.size w w') := by
  go_enter Try.func53, Try.ntmps53
  go_wp2_with fail
  refine (table_lost x0 x1 _).mono ?_
  rintro e w1 ⟨rfl, hb⟩
  have HB : Aside0 (Below w.heap.size w w1) := ⟨((Below.refl _ w).alloc (Nat.le_refl _) _).trans (hb.mono (by simp))⟩
  clear hb
  go_wp2
  go_ret
  exact ⟨rfl, HB⟩
/-- Is a row the parent's of a column? -/
def ofB (i : Int) (s : ByteArray) : Bool := decide (0 ≤ i) && (decide (i < (s.size : Int)) && (decide (bt s i = 45) || (decide (bt s i = 32) && !lostB s)))
theorem ofB_cases (i : Int) (s : ByteArray) : (i < 0 ∧ ofB i s = false) ∨ (∃ n : Nat, i = (n : Int) ∧ s.size ≤ n ∧ ofB i s = false) ∨ (∃ (n : Nat) (h : n < s.size), i = (n : Int) ∧ ofB i s = (decide (s[n] = 45) || (decide (s[n] = 32) && !lostB s))) := by
  by_cases h0 : i < 0
  · exact .inl ⟨h0, by rw [ofB, decide_eq_false (by omega)]; rfl⟩
  · obtain ⟨n, rfl⟩ : ∃ n : Nat, i = (n : Int) := ⟨i.toNat, by omega⟩
    by_cases h1 : n < s.size
    · refine .inr (.inr ⟨n, h1, rfl, ?_⟩)
      have e : bt s (n : Int) = (s[n].toNat : Int) := by simp [bt, h1]
      have c : ∀ c : UInt8, decide ((s[n].toNat : Int) = (c.toNat : Int)) = decide (s[n] = c) := fun c => by
        rw [decide_eq_decide]
        constructor
        · intro h; exact UInt8.toNat_inj.1 (by omega)
        · intro h; rw [h]
      have c1 := c 45
      have c2 := c 32
      have e1 : (((45 : UInt8).toNat : Nat) : Int) = 45 := rfl
      have e2 : (((32 : UInt8).toNat : Nat) : Int) = 32 := rfl
      rw [e1] at c1
      rw [e2] at c2
      rw [ofB, decide_eq_true (by omega), decide_eq_true (by omega), e, c1, c2]; rfl
    · exact .inr (.inl ⟨n, rfl, by omega, by rw [ofB, decide_eq_false (show ¬ (n : Int) < s.size by omega)]; simp⟩)
set_option maxRecDepth 100000 in
set_option maxHeartbeats 2000000 in
theorem ask_Column (g : Nat) (i : Int) (x0 x1 : ByteArray) (w : World) (hc : w.cell? ⟨g, 0, none⟩ = some (.int .i64 i)) (hs : x0.size ≤ 1000000000000) : Calls Try.prog 52 #[.agg #[.string x0, .string x1], .pointer (some ⟨g, 0, none⟩)] w fun e w' => e = .returned (.bool (ofB i x0)) ∧ Aside0 (Below w.heap.size w w') := by
  have hg : g < w.heap.size := World.block_lt_of_cell? w _ hc
  have hc1 : ∀ o, (w.alloc o).cell? ⟨g, 0, none⟩ = some (.int .i64 i) := fun o => cell_alloc_of hc o
  have hbl : ∀ o, Below w.heap.size w (w.alloc o) := fun o => (Below.refl _ w).alloc (Nat.le_refl _) o
  have HBL := Aside0.mk hbl
  clear hbl
  rcases ofB_cases i x0 with ⟨h0, he⟩ | ⟨n, rfl, h1, he⟩ | ⟨n, h1, rfl, he⟩
  · have d1 : decide (0 ≤ i) = false := decide_eq_false (by omega)
    rw [he]
    clear he
    go_enter Try.func52, Try.ntmps52
    go_wp2
    go_ret
    exact ⟨rfl, ⟨HBL.out _⟩⟩
  · have d1 : decide ((0 : Int) ≤ (n : Int)) = true := decide_eq_true (by omega)
    have d2 : decide ((n : Int) < (x0.size : Int)) = false := decide_eq_false (by omega)
    have d3 : decide (n < x0.size) = false := decide_eq_false (by omega)
    rw [he]
    clear he
    go_enter Try.func52, Try.ntmps52
    go_wp2
    go_ret
    exact ⟨rfl, ⟨HBL.out _⟩⟩
  · have d1 : decide ((0 : Int) ≤ (n : Int)) = true := decide_eq_true (by omega)
    have d2 : decide ((n : Int) < (x0.size : Int)) = true := decide_eq_true (by omega)
    have d3 : decide (n < x0.size) = true := decide_eq_true (by omega)
    rw [he]
    clear he
    obtain ⟨c, hcc⟩ : ∃ c, x0[n] = c := ⟨_, rfl⟩
    rw [hcc]
    by_cases e45 : c = 45
    · subst e45
      go_enter Try.func52, Try.ntmps52
      go_wp2
      go_ret
      exact ⟨rfl, ⟨HBL.out _⟩⟩
    · have n45 : ¬ ((c.toNat : Nat) : Int) = 45 := fun h => e45 (UInt8.toNat_inj.1 (by show _ = 45; omega))
      have b45 : (((c.toNat : Nat) : Int) == 45) = false := by simpa using n45
      have b45' : decide (((c.toNat : Nat) : Int) = 45) = false := decide_eq_false n45
      rw [decide_eq_false e45, Bool.false_or]
      by_cases e32 : c = 32
      · subst e32
        cases hl : lostB x0
        all_goals
          have HLB := Aside0.mk hl
          clear hl
          go_enter Try.func52, Try.ntmps52
          go_wp2_with fail
          refine (table_lost x0 x1 _).mono ?_
          rintro e w1 ⟨rfl, hb⟩
          have HB : Aside0 (Below w.heap.size w w1) := ⟨(HBL.out _).trans (hb.mono (by simp))⟩
          clear hb
          rw [HLB.out]
          go_wp2
          go_ret
          exact ⟨rfl, HB⟩
      · have n32 : ¬ ((c.toNat : Nat) : Int) = 32 := fun h => e32 (UInt8.toNat_inj.1 (by show _ = 32; omega))
        have b32 : (((c.toNat : Nat) : Int) == 32) = false := by simpa using n32
        have b32' : decide (((c.toNat : Nat) : Int) = 32) = false := decide_eq_false n32
        rw [decide_eq_false e32]
        go_enter Try.func52, Try.ntmps52
        go_wp2
        go_ret
        exact ⟨rfl, ⟨HBL.out _⟩⟩
set_option maxRecDepth 100000 in
set_option maxHeartbeats 2000000 in
theorem texts_Result (A : Option Addr) (c : Nat) (rows : List S37) (w : World) (hC : Kd.C k37 w A rows.length rows) (hc : rows.length ≤ c) (hn : rows.length ≤ 1000000000) (hsz : ∀ x ∈ rows, x.f0.size ≤ 1000000000000) :
    Calls Try.prog 51 #[.slice A rows.length c, .func (.func 53) #[] #[]] w fun e w' => ∃ v, e = .returned v ∧ Aside0 (Kd.R Kd.string 9 w' w.heap.size (fun _ => True) v ((rows.filter (fun x : S37 => !lostB x.f0)).map (·.f1))) ∧ Aside0 (Below w.heap.size w w') := by
  have HC := Aside0.mk hC
  have HSZ := Aside0.mk hsz
  have _t := trivial
  clear hC hsz
  go_enter Try.func51, Try.ntmps51
  go_wp2_with fail
  go_loopw [5, 10] (fun v iv wr => ∃ (k : Nat) (Ao : Option Addr) (co m : Nat), v = .slice Ao m co ∧ iv = .int .i64 k ∧ k ≤ rows.length ∧ Aside0 (Kd.R Kd.string 9 wr w.heap.size (fun _ => True) (.slice Ao m co) (((rows.take k).filter (fun x : S37 => !lostB x.f0)).map (·.f1))) ∧ Aside0 (Below w.heap.size w wr)) (fun _ iv _ => rows.length - (intOf iv).toNat)
  case atStart => exact ⟨0, _, _, _, rfl, rfl, Nat.zero_le _, ⟨Kd.R_nil _ _ _ _ _⟩, ⟨Below.refl _ _⟩⟩
  case round =>
    obtain ⟨k, Ao, co, m, rfl, rfl, hk, HR, HB⟩ := hrel
    by_cases hlt : k < rows.length
    · obtain ⟨ad, rfl, x0, x1⟩ := at_T37 HC.out (k : Int) (by omega) (by omega)
      have hx : rd_T37 rows (k : Int) = rows[k] := getN hlt
      have htk : rows.take (k + 1) = rows.take k ++ [rows[k]] := (List.take_append_getElem hlt).symm
      have hxs := HSZ.out _ (List.getElem_mem hlt)
      obtain ⟨x, hxe⟩ : ∃ x, rows[k] = x := ⟨_, rfl⟩
      rw [hx, hxe] at x0 x1
      rw [hxe] at htk hxs
      have HTK := Aside0.mk htk
      have HXS := Aside0.mk hxs
      have hm : (((rows.take k).filter (fun x : S37 => !lostB x.f0)).map (·.f1)).length ≤ 1000000000 := by
        rw [List.length_map]
        have := List.length_filter_le (fun x : S37 => !lostB x.f0) (rows.take k)
        rw [List.length_take] at this
        omega
      have HM := Aside0.mk hm
      clear hx hxe htk hxs hm
      replace x0 := (HB.out.cell (World.block_lt_of_cell? w _ x0)).trans x0
      replace x1 := (HB.out.cell (World.block_lt_of_cell? w _ x1)).trans x1
      have kk : (k : Int).toNat = k := by omega
      rw [kk] at x0 x1
      clear kk
      have HW2 : Aside0 (Below w.heap.size w (wr.alloc (.cells #[.string x.f0, .string x.f1] 37))) := ⟨HB.out.alloc HB.out.size _⟩
      obtain ⟨q, hq⟩ : ∃ q, (!lostB x.f0) = q := ⟨_, rfl⟩
      have HQ := Aside0.mk hq
      clear hq
      have HF : Aside0 (((rows.take (k + 1)).filter (fun x : S37 => !lostB x.f0)).map (·.f1) = ((rows.take k).filter (fun x : S37 => !lostB x.f0)).map (·.f1) ++ if q = true then [x.f1] else []) := ⟨by
        rw [HTK.out, List.filter_append, List.map_append]
        congr 1
        rw [List.filter_cons, HQ.out]
        cases q <;> rfl⟩
      go_wp2_with fail
      refine ((ask_Result x.f0 x.f1 _)).mono ?_
      rintro e w1 ⟨rfl, hb1⟩
      have HB1 : Aside0 (Below w.heap.size w w1) := ⟨HW2.out.trans (hb1.out.mono HW2.out.size)⟩
      have c1 : w1.cell? ⟨wr.heap.size, 1, none⟩ = some (.string x.f1) := (hb1.out.cell (by simp)).trans (cell_blk (blk_new wr _) rfl)
      have HR1 : Aside0 (Kd.R Kd.string 9 w1 w.heap.size (fun _ => True) (.slice Ao m co) (((rows.take k).filter (fun x : S37 => !lostB x.f0)).map (·.f1))) := ⟨Kd.R_below (Kd.R_below HR.out ((Below.refl _ wr).alloc (Nat.le_refl _) _)) hb1.out⟩
      rw [HQ.out]
      clear hb1 HR HQ
      cases q
      · rw [if_neg (by decide), List.append_nil] at HF
        go_wp2
        go_roundw
        case measure => simp [intOf]; omega
        case rel => exact ⟨k + 1, _, _, _, rfl, by go_num, by omega, by rw [HF.out]; exact HR1, HB1⟩
      · rw [if_pos rfl] at HF
        go_wp2_with (first
          | (at_builtin; refine Kd.R_append Kd.string (w0 := w) w.heap.size rfl (.tmp 17) (.tmp 20) 34 9 (.string ⟨#[]⟩) 16 rfl Try.underlying34 info9 rfl (by decide) (by decide) (.slice Ao m co) (((rows.take k).filter (fun x : S37 => !lostB x.f0)).map (·.f1)) x.f1 [.string x.f1] (fun _ => True) (fun _ => False) rfl rfl rfl (fun _ h => h.elim) (fun _ _ => trivial) HR1.out HB1.out HB1.out.size (by have := HM.out; omega) ?_; intro v2 w2 ho2 hb2 hg2 hat2; obtain ⟨A2, c2, hv2⟩ := Kd.R_slice ho2; subst hv2; generalize (((rows.take k).filter (fun x : S37 => !lostB x.f0)).map (·.f1) ++ [x.f1]).length = m2 at ho2 ⊢; have HO2 := Aside0.mk ho2; have HB2 := Aside0.mk hb2; clear ho2 hb2 hg2 hat2))
        go_roundw
        case measure => simp [intOf]; omega
        case rel => exact ⟨k + 1, _, _, _, rfl, by go_num, by omega, by rw [HF.out]; exact HO2, HB2⟩
    · have hk' : k = rows.length := by omega
      subst hk'
      rw [List.take_length] at HR
      go_wp2
      go_ret
      exact ⟨_, rfl, HR, HB⟩
set_option maxRecDepth 100000 in
set_option maxHeartbeats 2000000 in
theorem texts_Column (A : Option Addr) (c : Nat) (rows : List S37) (g : Nat) (i : Int) (w : World) (hcap : w.cell? ⟨g, 0, none⟩ = some (.int .i64 i)) (hC : Kd.C k37 w A rows.length rows) (hc : rows.length ≤ c) (hn : rows.length ≤ 1000000000) (hsz : ∀ x ∈ rows, x.f0.size ≤ 1000000000000) :
    Calls Try.prog 51 #[.slice A rows.length c, .func (.func 52) #[] #[.pointer (some ⟨g, 0, none⟩)]] w fun e w' => ∃ v, e = .returned v ∧ Aside0 (Kd.R Kd.string 9 w' w.heap.size (fun _ => True) v ((rows.filter (fun x : S37 => ofB i x.f0)).map (·.f1))) ∧ Aside0 (Below w.heap.size w w') := by
  have HC := Aside0.mk hC
  have HSZ := Aside0.mk hsz
  have HCAP := Aside0.mk hcap; clear hcap
  clear hC hsz
  go_enter Try.func51, Try.ntmps51
  go_wp2_with fail
  go_loopw [5, 10] (fun v iv wr => ∃ (k : Nat) (Ao : Option Addr) (co m : Nat), v = .slice Ao m co ∧ iv = .int .i64 k ∧ k ≤ rows.length ∧ Aside0 (Kd.R Kd.string 9 wr w.heap.size (fun _ => True) (.slice Ao m co) (((rows.take k).filter (fun x : S37 => ofB i x.f0)).map (·.f1))) ∧ Aside0 (Below w.heap.size w wr)) (fun _ iv _ => rows.length - (intOf iv).toNat)
  case atStart => exact ⟨0, _, _, _, rfl, rfl, Nat.zero_le _, ⟨Kd.R_nil _ _ _ _ _⟩, ⟨Below.refl _ _⟩⟩
  case round =>
    obtain ⟨k, Ao, co, m, rfl, rfl, hk, HR, HB⟩ := hrel
    by_cases hlt : k < rows.length
    · obtain ⟨ad, rfl, x0, x1⟩ := at_T37 HC.out (k : Int) (by omega) (by omega)
      have hx : rd_T37 rows (k : Int) = rows[k] := getN hlt
      have htk : rows.take (k + 1) = rows.take k ++ [rows[k]] := (List.take_append_getElem hlt).symm
      have hxs := HSZ.out _ (List.getElem_mem hlt)
      obtain ⟨x, hxe⟩ : ∃ x, rows[k] = x := ⟨_, rfl⟩
      rw [hx, hxe] at x0 x1
      rw [hxe] at htk hxs
      have HTK := Aside0.mk htk
      have HXS := Aside0.mk hxs
      have hm : (((rows.take k).filter (fun x : S37 => ofB i x.f0)).map (·.f1)).length ≤ 1000000000 := by
        rw [List.length_map]
        have := List.length_filter_le (fun x : S37 => ofB i x.f0) (rows.take k)
        rw [List.length_take] at this
        omega
      have HM := Aside0.mk hm
      clear hx hxe htk hxs hm
      replace x0 := (HB.out.cell (World.block_lt_of_cell? w _ x0)).trans x0
      replace x1 := (HB.out.cell (World.block_lt_of_cell? w _ x1)).trans x1
      have kk : (k : Int).toNat = k := by omega
      rw [kk] at x0 x1
      clear kk
      have HW2 : Aside0 (Below w.heap.size w (wr.alloc (.cells #[.string x.f0, .string x.f1] 37))) := ⟨HB.out.alloc HB.out.size _⟩
      obtain ⟨q, hq⟩ : ∃ q, ofB i x.f0 = q := ⟨_, rfl⟩
      have HQ := Aside0.mk hq
      clear hq
      have HF : Aside0 (((rows.take (k + 1)).filter (fun x : S37 => ofB i x.f0)).map (·.f1) = ((rows.take k).filter (fun x : S37 => ofB i x.f0)).map (·.f1) ++ if q = true then [x.f1] else []) := ⟨by
        rw [HTK.out, List.filter_append, List.map_append]
        congr 1
        rw [List.filter_cons, HQ.out]
        cases q <;> rfl⟩
      go_wp2_with fail
      refine ((ask_Column g i x.f0 x.f1 _ ((HW2.out.cell (World.block_lt_of_cell? w _ HCAP.out)).trans HCAP.out) HXS.out)).mono ?_
      rintro e w1 ⟨rfl, hb1⟩
      have HB1 : Aside0 (Below w.heap.size w w1) := ⟨HW2.out.trans (hb1.out.mono HW2.out.size)⟩
      have c1 : w1.cell? ⟨wr.heap.size, 1, none⟩ = some (.string x.f1) := (hb1.out.cell (by simp)).trans (cell_blk (blk_new wr _) rfl)
      have HR1 : Aside0 (Kd.R Kd.string 9 w1 w.heap.size (fun _ => True) (.slice Ao m co) (((rows.take k).filter (fun x : S37 => ofB i x.f0)).map (·.f1))) := ⟨Kd.R_below (Kd.R_below HR.out ((Below.refl _ wr).alloc (Nat.le_refl _) _)) hb1.out⟩
      rw [HQ.out]
      clear hb1 HR HQ
      cases q
      · rw [if_neg (by decide), List.append_nil] at HF
        go_wp2
        go_roundw
        case measure => simp [intOf]; omega
        case rel => exact ⟨k + 1, _, _, _, rfl, by go_num, by omega, by rw [HF.out]; exact HR1, HB1⟩
      · rw [if_pos rfl] at HF
        go_wp2_with (first
          | (at_builtin; refine Kd.R_append Kd.string (w0 := w) w.heap.size rfl (.tmp 17) (.tmp 20) 34 9 (.string ⟨#[]⟩) 16 rfl Try.underlying34 info9 rfl (by decide) (by decide) (.slice Ao m co) (((rows.take k).filter (fun x : S37 => ofB i x.f0)).map (·.f1)) x.f1 [.string x.f1] (fun _ => True) (fun _ => False) rfl rfl rfl (fun _ h => h.elim) (fun _ _ => trivial) HR1.out HB1.out HB1.out.size (by have := HM.out; omega) ?_; intro v2 w2 ho2 hb2 hg2 hat2; obtain ⟨A2, c2, hv2⟩ := Kd.R_slice ho2; subst hv2; generalize (((rows.take k).filter (fun x : S37 => ofB i x.f0)).map (·.f1) ++ [x.f1]).length = m2 at ho2 ⊢; have HO2 := Aside0.mk ho2; have HB2 := Aside0.mk hb2; clear ho2 hb2 hg2 hat2))
        go_roundw
        case measure => simp [intOf]; omega
        case rel => exact ⟨k + 1, _, _, _, rfl, by go_num, by omega, by rw [HF.out]; exact HO2, HB2⟩
    · have hk' : k = rows.length := by omega
      subst hk'
      rw [List.take_length] at HR
      go_wp2
      go_ret
      exact ⟨_, rfl, HR, HB⟩

theorem table_Column (A : Option Addr) (c : Nat) (rows : List S37) (i : Int) (w : World) (hC : Kd.C k37 w A rows.length rows) (hc : rows.length ≤ c) (hn : rows.length ≤ 1000000000) (hsz : ∀ x ∈ rows, x.f0.size ≤ 1000000000000) :
    Calls Try.prog 28 #[.slice A rows.length c, .int .i64 i] w fun e w' => ∃ v, e = .returned v ∧ Aside0 (Kd.R Kd.string 9 w' w.heap.size (fun _ => True) v ((rows.filter (fun x => ofB i x.f0)).map (·.f1))) ∧ Aside0 (Below w.heap.size w w') := by
  have HC := Aside0.mk hC
  have HSZ := Aside0.mk hsz
  clear hC hsz
  have hmf : ∀ (fn : Fn) (first cap : Array Value) (w : World), (Instr.makeFunc fn first cap).run Try.prog w = .ok (.func fn first cap) w := fun _ _ _ _ => rfl
  go_enter Try.func28, Try.ntmps28
  go_wp2_with fail
  refine (texts_Column A c rows w.heap.size i _ (cell_blk (blk_new w (.cells #[.int .i64 i] 3)) rfl) (Kd.C_alloc HC.out _) hc hn HSZ.out).mono ?_
  rintro e w1 ⟨v, rfl, hr, hb⟩
  have HR : Aside0 (Kd.R Kd.string 9 w1 w.heap.size (fun _ => True) v ((rows.filter (fun x => ofB i x.f0)).map (·.f1))) := ⟨Kd.R_lower hr.out (by simp)⟩
  have HB : Aside0 (Below w.heap.size w w1) := ⟨((Below.refl _ w).alloc (Nat.le_refl _) _).trans (hb.out.mono (by simp))⟩
  clear hr hb
  go_wp2
  go_ret
  exact ⟨_, rfl, HR, HB⟩
theorem table_Result (A : Option Addr) (c : Nat) (rows : List S37) (w : World) (hC : Kd.C k37 w A rows.length rows) (hc : rows.length ≤ c) (hn : rows.length ≤ 1000000000) (hsz : ∀ x ∈ rows, x.f0.size ≤ 1000000000000) :
    Calls Try.prog 29 #[.slice A rows.length c] w fun e w' => ∃ v, e = .returned v ∧ Aside0 (Kd.R Kd.string 9 w' w.heap.size (fun _ => True) v ((rows.filter (fun x => !lostB x.f0)).map (·.f1))) ∧ Aside0 (Below w.heap.size w w') := by
  have HC := Aside0.mk hC
  have HSZ := Aside0.mk hsz
  clear hC hsz
  go_enter Try.func29, Try.ntmps29
  go_wp2_with fail
  refine (texts_Result A c rows _ HC.out hc hn HSZ.out).mono ?_
  rintro e w1 ⟨v, rfl, HR, HB⟩
  go_wp2
  go_ret
  exact ⟨_, rfl, HR, HB⟩
def table_Column.f (l0 : List S37) (a1 : Int) : Option (List ByteArray) := if l0.length ≤ 1000000000 ∧ ∀ x ∈ l0, x.f0.size ≤ 1000000000000 then some ((l0.filter (fun x => ofB a1 x.f0)).map (·.f1)) else none
theorem table_Column.calls (A0 : Option Addr) (c0 : Nat) (l0 : List S37) (a1 : Int) (r : List ByteArray) (w : World) (hr0 : Kd.C k37 w A0 l0.length l0) (hc0 : l0.length ≤ c0) (h : table_Column.f l0 a1 = some r) :
    Calls Try.prog 28 #[.slice A0 l0.length c0, .int .i64 a1] w fun e w' => ∃ v0_ : Value, e = .returned (v0_) ∧ Kd.R Kd.string 9 w' w.heap.size (fun _ => True) v0_ r ∧ Below w.heap.size w w' := by
  unfold table_Column.f at h
  split at h
  · rename_i hf
    obtain rfl := Option.some.inj h
    exact (table_Column A0 c0 l0 a1 w hr0 hc0 hf.1 hf.2).mono fun e w' ⟨v, he, hr, hb⟩ => ⟨v, he, hr.out, hb.out⟩
  · cases h
def table_Result.f (l0 : List S37) : Option (List ByteArray) := if l0.length ≤ 1000000000 ∧ ∀ x ∈ l0, x.f0.size ≤ 1000000000000 then some ((l0.filter (fun x => !lostB x.f0)).map (·.f1)) else none
theorem table_Result.calls (A0 : Option Addr) (c0 : Nat) (l0 : List S37) (r : List ByteArray) (w : World) (hr0 : Kd.C k37 w A0 l0.length l0) (hc0 : l0.length ≤ c0) (h : table_Result.f l0 = some r) :
    Calls Try.prog 29 #[.slice A0 l0.length c0] w fun e w' => ∃ v0_ : Value, e = .returned (v0_) ∧ Kd.R Kd.string 9 w' w.heap.size (fun _ => True) v0_ r ∧ Below w.heap.size w w' := by
  unfold table_Result.f at h
  split at h
  · rename_i hf
    obtain rfl := Option.some.inj h
    exact (table_Result A0 c0 l0 w hr0 hc0 hf.1 hf.2).mono fun e w' ⟨v, he, hr, hb⟩ => ⟨v, he, hr.out, hb.out⟩
  · cases h
end Go.Proofs.Ytnlekganlliikaa.X
-- part XLcs3
namespace Go.Proofs.Ytnlekganlliikaa.X
open Go.RowKit Go.Proofs.YtnlekganlliikaaW.PrintWords Go.Proofs.YtnlekganlliikaaW.PrintLast Go.Proofs.YtnlekganlliikaaW.PrintMore
set_option linter.unusedVariables false
set_option linter.unusedSimpArgs false
theorem madeCells_one (z : Value) (n : Nat) : madeCells #[z] (n * 1) = (List.replicate n z).toArray := by
  apply Array.ext
  · simp [size_madeCells]
  · intro i h1 h2
    simp [madeCells, Nat.mod_one]

/-- How the row stands when its first m places are laid. -/
def repRow (v : Int) (m n : Nat) : List Value := List.replicate m (.int .i64 v) ++ List.replicate (n - m) (.int .i64 0)
theorem repRow_length (v : Int) {m n : Nat} (h : m ≤ n) : (repRow v m n).length = n := by simp [repRow]; omega
theorem splice_rep (v : Int) {m k n : Nat} (h : m + k ≤ n) : splice (repRow v m n) m (List.replicate k (.int .i64 v)) = repRow v (m + k) n := by
  unfold splice repRow
  have h1 : (List.replicate m (Value.int .i64 v) ++ List.replicate (n - m) (Value.int .i64 0)).take m = List.replicate m (Value.int .i64 v) := List.take_left' (by simp)
  have h2 : (List.replicate m (Value.int .i64 v) ++ List.replicate (n - m) (Value.int .i64 0)).drop (m + (List.replicate k (Value.int .i64 v)).length) = List.replicate (n - (m + k)) (Value.int .i64 0) := by
    rw [List.length_replicate, List.drop_append, List.drop_of_length_le (by simp), List.nil_append, List.length_replicate, List.drop_replicate]
    congr 1
    omega
  rw [h1, h2, ← List.append_assoc, List.replicate_append_replicate]

theorem rep_cells {W : World} {ad : Addr} {v : Int} {m : Nat} (h : W.cell? ad = some (.int .i64 v)) (hm : m ≤ 1) (j : Nat) (u : Value) (hj : (List.replicate m (Value.int .i64 v))[j]? = some u) : W.cell? (ad.add j) = some u := by
  rw [List.getElem?_replicate] at hj
  split at hj
  · have hj0 : j = 0 := by omega
    subst hj0
    injection hj with hj
    subst hj
    rw [show ad.add 0 = ad from by cases ad; simp [Addr.add]]
    exact h
  · cases hj
theorem rep_cells_row {W : World} {g : Nat} {v : Int} {m k n : Nat} {t : TypeId} (h : W.heap[g]? = some (.cells (repRow v m n).toArray t (0, 0))) (hk : k ≤ m) (j : Nat) (u : Value) (hj : (List.replicate k (Value.int .i64 v))[j]? = some u) : W.cell? ((⟨g, 0, none⟩ : Addr).add j) = some u := by
  rw [List.getElem?_replicate] at hj
  split at hj
  · rename_i hjk
    injection hj with hj
    subst hj
    rw [add_plain, cell_of_row W g j _ t (0, 0) h]
    simp [repRow, List.getElem?_append, List.getElem?_replicate, Nat.lt_of_lt_of_le hjk hk]
  · cases hj
theorem rep_wrap {m n : Nat} (hlt : m < n) (hn : n ≤ 2000) : wrap64 ((m : Int) + ((Nat.min m (n - m) : Nat) : Int)) = ((m + Nat.min m (n - m) : Nat) : Int) := by
  have h : Nat.min m (n - m) ≤ n - m := Nat.min_le_right _ _
  rw [IntWalk.wrap64_in _ (by omega)]
  exact (Int.natCast_add _ _).symm
theorem rep_measure {m n : Nat} (hlt : m < n) (h0 : 0 < m) : n - (intOf (Value.int .i64 ((m + Nat.min m (n - m) : Nat) : Int))).toNat < n - (intOf (Value.int .i64 (m : Int))).toNat := by
  show n - (m + min m (n - m)) < n - m
  omega
set_option maxHeartbeats 4000000 in
set_option maxRecDepth 100000 in
theorem slices_Repeat_one (ad : Addr) (c : Nat) (v : Int) (n : Nat) (w : World) (hc : w.cell? ad = some (.int .i64 v)) (hn : n ≤ 2000) :
    Calls Try.prog 82 #[.slice (some ad) 1 c, .int .i64 n] w fun e w' => ∃ v0_ : Value, e = .returned v0_ ∧ Kd.R (Kd.int .i64) 3 w' w.heap.size (fun _ => True) v0_ (List.replicate n v) ∧ Below w.heap.size w w' := by
  obtain ⟨i0, hi0, hz0⟩ := Option.map_eq_some_iff.1 info3
  simp only [Prod.mk.injEq] at hz0
  obtain ⟨hz, hsz, hby⟩ := hz0
  have hmk : ∀ W : World, (Instr.makeSlice 49 (.int .i64 (n : Int)) (.int .i64 (n : Int))).run Try.prog W = .ok (.slice (some ⟨W.heap.size, 0, none⟩) n n) (W.alloc (.cells (List.replicate n (.int .i64 0)).toArray 3)) := by
    intro W
    have h := run_make (P := Try.prog) W 49 3 i0 (.int .i64 0) Try.underlying49 hi0 hz .i64 .i64 (n : Int) (n : Int) (by omega) (by omega) (by rw [hby]; omega) (by omega)
    rw [h, hsz]
    simp only [Int.toNat_natCast]
    rw [show (Value.int IntKind.i64 0).cells = #[Value.int .i64 0] from rfl, madeCells_one]
  have Hc := Aside0.mk hc
  clear hc hi0 hz hsz hby i0
  have p1 : decide ((n : Int) < 0) = false := decide_eq_false (by omega)
  go_enter Try.func82, Try.ntmps82
  go_wp2_with fail
  refine (Try.bits_Mul 1 n (by omega) (by omega) _).mono ?_
  rintro e w1 ⟨rfl, he⟩
  obtain rfl := he.symm
  clear he
  rw [show ((1 * n / 18446744073709551616 : Nat) : Int) = 0 from by omega, show ((1 * n % 18446744073709551616 : Nat) : Int) = (n : Int) from by omega]
  go_wp2_with ((with_reducible refine gate_builtin (b := .copy) (xs := #[.tmp 31, .tmp 32]) rfl ?_); refine wpList_copy_splice rfl _ _ 49 49 rfl 3 Try.underlying49 (by kernel_rfl) (some ⟨w.heap.size, 0, none⟩) (some ad) n n 1 c rfl rfl w.heap.size 0 (repRow v 0 n) 3 ?c0 (List.replicate (Nat.min 1 n) (.int .i64 v)) ?c1 ?c2 ?c3 ?c4 w.heap.size w ?c5 (Nat.le_refl _) ?_; (case c0 => exact blk_new _ _); (case c1 => exact List.length_replicate); (case c3 => rw [repRow_length v (Nat.zero_le n), List.length_replicate, Nat.zero_add]; exact Nat.min_le_right 1 n); (case c4 => intro u hu; rw [List.eq_of_mem_replicate hu]; rfl); (case c5 => exact below_alloc (Below.refl _ _) _); (case c2 => exact fun _ => ⟨rfl, ad, rfl, rep_cells (cell_alloc_of Hc.out _) (Nat.min_le_left 1 n)⟩); intro w1 HG1 hb1; have HB1 := Aside0.mk hb1; clear hb1)
  rw [splice_rep v (by show 0 + min 1 n ≤ n; omega), Nat.zero_add] at HG1
  go_loopw [8] (fun t8 W => ∃ m : Nat, t8 = .int .i64 m ∧ m ≤ n ∧ (0 < n → 0 < m) ∧ Aside0 (W.heap[w.heap.size]? = some (.cells (repRow v m n).toArray 3 (0, 0))) ∧ Aside0 (Below w.heap.size w W)) (fun t8 _ => n - (intOf t8).toNat)
  case atStart => exact ⟨Nat.min 1 n, rfl, Nat.min_le_right 1 n, fun h => Nat.lt_min.2 ⟨by omega, h⟩, ⟨HG1.out⟩, HB1⟩
  case round =>
    obtain ⟨m, rfl, hm, hm0, HG, HB⟩ := hrel
    clear HG1 HB1
    by_cases hlt : m < n
    · go_wp2
      have hne : ¬ n = m := by omega
      have hmin : Nat.min m (n - m) ≤ n - m := Nat.min_le_right _ _
      refine start_ (n := 10) (S := fun w' => True) (ds := []) #[false, false, false, false, false, false, false, false, false, false] (by kernel_rfl) rfl rfl trivial (fun hHeld => ?_)
      refine pure_ (i := 0) (N := some 38) (v := ?_) (a' := ?_) #[true, false, false, false, false, false, false, false, false, false] rfl rfl (by kernel_rfl) (fun _ _ _ h => h) (Or.inl ⟨by rfl, ?_⟩) ?_ ?_
      rotate_left
      · intro w'
        go_simp
        with_reducible rfl
      rotate_left
      · simp only [Act.put, List.setIfInBounds_toArray, List.set_cons_zero, List.set_cons_succ, i64_w, i32_w]
        rfl
      refine pure_ (i := 1) (N := some 39) (v := ?_) (a' := ?_) #[true, true, false, false, false, false, false, false, false, false] rfl rfl (by kernel_rfl) (fun _ _ _ h => h) (Or.inl ⟨by rfl, ?_⟩) ?_ ?_
      rotate_left
      · intro w'
        go_simp
        with_reducible rfl
      rotate_left
      · simp only [Act.put, List.setIfInBounds_toArray, List.set_cons_zero, List.set_cons_succ, i64_w, i32_w]
        rfl
      refine pure_ (i := 2) (N := some 40) (v := ?_) (a' := ?_) #[true, true, true, false, false, false, false, false, false, false] rfl rfl (by kernel_rfl) (fun _ _ _ h => h) (Or.inl ⟨by rfl, ?_⟩) ?_ ?_
      rotate_left
      · intro w'
        go_simp
        with_reducible rfl
      rotate_left
      · simp only [Act.put, List.setIfInBounds_toArray, List.set_cons_zero, List.set_cons_succ, i64_w, i32_w]
        rfl
      refine pure_ (i := 3) (N := some 41) (v := ?_) (a' := ?_) #[true, true, true, true, false, false, false, false, false, false] rfl rfl (by kernel_rfl) (fun _ _ _ h => h) (Or.inl ⟨by rfl, ?_⟩) ?_ ?_
      rotate_left
      · intro w'
        go_simp
        with_reducible rfl
      rotate_left
      · simp only [Act.put, List.setIfInBounds_toArray, List.set_cons_zero, List.set_cons_succ, i64_w, i32_w]
        rfl
      refine pure_ (i := 4) (N := some 42) (v := ?_) (a' := ?_) #[true, true, true, true, true, false, false, false, false, false] rfl rfl (by kernel_rfl) (fun _ _ _ h => h) (Or.inl ⟨by rfl, ?_⟩) ?_ ?_
      rotate_left
      · intro w'
        go_simp
        with_reducible rfl
      rotate_left
      · simp only [Act.put, List.setIfInBounds_toArray, List.set_cons_zero, List.set_cons_succ, i64_w, i32_w]
        rfl
      refine pure_ (i := 5) (N := some 43) (v := ?_) (a' := ?_) #[true, true, true, true, true, true, false, false, false, false] rfl rfl (by kernel_rfl) (fun _ _ _ h => h) (Or.inl ⟨by rfl, ?_⟩) ?_ ?_
      rotate_left
      · intro w'
        go_simp
        with_reducible rfl
      rotate_left
      · simp only [Act.put, List.setIfInBounds_toArray, List.set_cons_zero, List.set_cons_succ, i64_w, i32_w]
        rfl
      refine pure_ (i := 6) (N := some 44) (v := ?_) (a' := ?_) #[true, true, true, true, true, true, true, false, false, false] rfl rfl (by kernel_rfl) (fun _ _ _ h => h) (Or.inl ⟨by rfl, ?_⟩) ?_ ?_
      rotate_left
      · intro w'
        go_simp
        with_reducible rfl
      rotate_left
      · simp only [Act.put, List.setIfInBounds_toArray, List.set_cons_zero, List.set_cons_succ, i64_w, i32_w]
        rfl
      refine one_ (i := 7) (N := some 45) #[true, true, true, true, true, true, true, true, false, false] rfl rfl (by kernel_rfl) (by decide) (fun K hK => ?_)
      refine step_copy_splice rfl (.tmp 41) (.tmp 44) 49 49 rfl 3 Try.underlying49 (by kernel_rfl) (some ⟨w.heap.size, m, none⟩) (some ⟨w.heap.size, 0, none⟩) (n - m) (n - m) m n (by simp [Act.eval, Act.put]) (by simp [Act.eval, Act.put]) w.heap.size m (repRow v m n) 3 HG.out (List.replicate (Nat.min m (n - m)) (.int .i64 v)) (by simp) (fun _ => ⟨rfl, _, rfl, rep_cells_row HG.out (Nat.min_le_left _ _)⟩) (by rw [repRow_length v hm, List.length_replicate]; show m + min m (n - m) ≤ n; omega) (by intro u hu; rw [List.eq_of_mem_replicate hu]; rfl) w.heap.size w HB.out.drew (Nat.le_refl _) ?_
      intro w3 HG3 hb3
      refine hK.out _ _ trivial (fun hHeld => ?_)
      clear hK K
      refine norm_ (a' := ?_) ?_ ?_
      rotate_left
      · show Act.put _ (some 45) _ = _
        simp only [Act.put, List.setIfInBounds_toArray, List.set_cons_zero, List.set_cons_succ, i64_w, i32_w]
        rfl
      refine pure_ (i := 8) (N := some 46) (v := ?_) (a' := ?_) #[true, true, true, true, true, true, true, true, true, false] rfl rfl (by kernel_rfl) (fun _ _ _ h => h) (Or.inl ⟨by rfl, ?_⟩) ?_ ?_
      rotate_left
      · intro w'
        go_simp
        with_reducible rfl
      rotate_left
      · simp only [Act.put, List.setIfInBounds_toArray, List.set_cons_zero, List.set_cons_succ, i64_w, i32_w]
        rfl
      refine pure_ (i := 9) (N := some 8) (v := ?_) (a' := ?_) #[true, true, true, true, true, true, true, true, true, true] rfl rfl (by kernel_rfl) (fun _ _ _ h => h) (Or.inl ⟨by rfl, ?_⟩) ?_ ?_
      rotate_left
      · intro w'
        go_simp
        with_reducible rfl
      rotate_left
      · simp only [Act.put, List.setIfInBounds_toArray, List.set_cons_zero, List.set_cons_succ, i64_w, i32_w]
        rfl
      refine done_ (by kernel_rfl) ?_

      rw [splice_rep v (by show m + min m (n - m) ≤ n; omega)] at HG3
      have HB3 := Aside0.mk hb3
      have hw := rep_wrap hlt hn
      clear hb3 HB HG
      go_wp2
      go_roundw
      case measure =>
        rw [hw]
        exact rep_measure hlt (hm0 (by omega))
      case rel => exact ⟨m + Nat.min m (n - m), by rw [hw], by show m + min m (n - m) ≤ n; omega, by intro h; have := hm0 h; omega, ⟨HG3.out⟩, HB3⟩
    · obtain rfl : m = n := by omega
      go_wp2
      go_ret
      refine ⟨_, rfl, ?_, HB.out⟩
      have h := HG.out
      simp only [repRow, Nat.sub_self, List.replicate_zero, List.append_nil] at h
      rw [← List.map_replicate] at h
      have h2 := R_int_of_cells h (Nat.le_refl _) (by rw [List.length_replicate]; unfold maxLen; omega)
      rwa [List.length_replicate] at h2
end Go.Proofs.Ytnlekganlliikaa.X
-- part XLcs4
namespace Go.Proofs.Ytnlekganlliikaa.X
open Go.RowKit Go.Proofs.YtnlekganlliikaaW.PrintWords Go.Proofs.YtnlekganlliikaaW.PrintLast Go.Proofs.YtnlekganlliikaaW.PrintMore
set_option linter.unusedVariables false
set_option linter.unusedSimpArgs false
/-- A block of numbers. -/
def NumsAt (k : IntKind) (W : World) (t g : Nat) (L : List Int) : Prop := W.heap[g]? = some (.cells (L.map (Value.int k)).toArray t (0, 0))
/-- The two rows, and the variable that holds them. -/
def RowsAt (W : World) (N g3 g0 g1 m : Nat) (L0 L1 : List Int) : Prop :=
  N ≤ g3 ∧ N ≤ g0 ∧ N ≤ g1 ∧ g3 ≠ g0 ∧ g3 ≠ g1 ∧ g0 ≠ g1 ∧
    W.heap[g3]? = some (.cells #[.slice (some ⟨g0, 0, none⟩) (m + 1) (m + 1), .slice (some ⟨g1, 0, none⟩) (m + 1) (m + 1)] 130 (0, 0)) ∧
    NumsAt .i64 W 3 g0 L0 ∧ NumsAt .i64 W 3 g1 L1 ∧ L0.length = m + 1 ∧ L1.length = m + 1

theorem alloc3 (w : World) (o0 o1 o2 : Obj) : (((w.alloc o0).alloc o1).alloc o2).drew.heap[w.heap.size]? = some o0 ∧ (((w.alloc o0).alloc o1).alloc o2).drew.heap[w.heap.size + 1]? = some o1 ∧ (((w.alloc o0).alloc o1).alloc o2).drew.heap[w.heap.size + 1 + 1]? = some o2 ∧ Below w.heap.size w (((w.alloc o0).alloc o1).alloc o2).drew := by
  refine ⟨?_, ?_, ?_, (below_alloc (below_alloc (below_alloc (Below.refl _ _) _) _) _).drew⟩
  · show (((w.heap.push o0).push o1).push o2)[w.heap.size]? = _
    simp only [Array.getElem?_push, Array.size_push]
    rw [if_neg (by omega), if_neg (by omega), if_pos trivial]
  · show (((w.heap.push o0).push o1).push o2)[w.heap.size + 1]? = _
    simp only [Array.getElem?_push, Array.size_push]
    rw [if_neg (by omega), if_pos trivial]
  · show (((w.heap.push o0).push o1).push o2)[w.heap.size + 1 + 1]? = _
    simp only [Array.getElem?_push, Array.size_push]
    rw [if_pos trivial]
theorem nums_rep {k : IntKind} {W : World} {t g n : Nat} (h : W.heap[g]? = some (.cells (Array.replicate n (Value.int k 0)) t (0, 0))) : NumsAt k W t g (List.replicate n 0) := by
  unfold NumsAt
  rw [h]
  simp

theorem grown_far {w W : World} {g : Nat} (h : w.grownBy W (some g)) {p : Addr} (hp : w.heap.size ≤ p.block) (u : Value) : w.grownBy (W.setCell p u) (some g) :=
  ⟨h.os, h.tape, h.output, by rw [show (W.setCell p u).heap.size = W.heap.size by simp]; exact h.size, fun i hi hn => (Below.heap_setCell W p u i (by omega)).trans (h.block i hi hn)⟩
theorem grown_set {w W : World} {g : Nat} (h : w.grownBy W (some g)) (j : Nat) (u : Value) : w.grownBy (W.setCell ⟨g, j, none⟩ u) (some g) :=
  ⟨h.os, h.tape, h.output, by rw [show (W.setCell ⟨g, j, none⟩ u).heap.size = W.heap.size by simp]; exact h.size, fun i hi hn => (Below.heap_setCell W ⟨g, j, none⟩ u i (fun e => hn (by rw [e]))).trans (h.block i hi hn)⟩
theorem grown_drewN {w W : World} {g : Nat} (h : w.grownBy W (some g)) (m : Nat) : w.grownBy (W.drewN m) (some g) := ⟨h.os, h.tape, h.output, h.size, h.block⟩
theorem grown_then {w W W2 : World} {g : Nat} (h : w.grownBy W (some g)) (k : W.grownBy W2 (some g)) : w.grownBy W2 (some g) :=
  ⟨k.os.trans h.os, k.tape.trans h.tape, k.output.trans h.output, Nat.le_trans h.size k.size, fun i hi hn => (k.block i (Nat.lt_of_lt_of_le hi h.size) hn).trans (h.block i hi hn)⟩
theorem grown_alloc {w W : World} {g : Nat} (h : w.grownBy W (some g)) (o : Obj) : w.grownBy (W.alloc o) (some g) :=
  grown_then h (World.grownBy_alloc W o _)

/-- Memory while it is reckoned. -/
def RState (w W : World) (g g3 g0 g1 gs : Nat) (sa sb x2 x3 x4 : Value) (nm m : Nat) (L0 L1 S : List Int) : Prop :=
  (w.heap.size ≤ gs ∧ gs ≠ g3 ∧ gs ≠ g0 ∧ gs ≠ g1 ∧ g < w.heap.size) ∧ RowsAt W w.heap.size g3 g0 g1 m L0 L1 ∧
    W.heap[g]? = some (.cells #[sa, sb, x2, x3, x4, .slice (some ⟨gs, 0, none⟩) nm nm, .int .i64 0] 103 (0, 0)) ∧ (NumsAt .u8 W 5 gs S ∧ S.length = nm) ∧ w.grownBy W (some g)

theorem nums_set {k : IntKind} {W : World} {t g : Nat} {L : List Int} (h : NumsAt k W t g L) (j : Nat) (v : Int) : NumsAt k (W.setCell ⟨g, j, none⟩ (.int k v)) t g (L.set j v) := by
  unfold NumsAt
  rw [heap_set_same h]
  simp [List.map_set]
theorem nums_other {k : IntKind} {W : World} {t g g' j : Nat} {L : List Int} (h : NumsAt k W t g L) (hne : g ≠ g') (v : Value) : NumsAt k (W.setCell ⟨g', j, none⟩ v) t g L := by
  unfold NumsAt
  rw [heap_set_other hne]
  exact h
theorem nums_cell {k : IntKind} {W : World} {t g : Nat} {L : List Int} (h : NumsAt k W t g L) {j : Nat} {v : Int} (hj : L[j]? = some v) : W.cell? ⟨g, j, none⟩ = some (.int k v) := by
  refine cell_blk h ?_
  simp [hj]

section
variable {w W : World} {g g3 g0 g1 gs : Nat} {sa sb x2 x3 x4 : Value} {nm m : Nat} {L0 L1 S : List Int}
theorem RState.row (h : RState w W g g3 g0 g1 gs sa sb x2 x3 x4 nm m L0 L1 S) (j : Nat) (v : Int) : RState w (W.setCell ⟨g1, j, none⟩ (.int .i64 v)) g g3 g0 g1 gs sa sb x2 x3 x4 nm m L0 (L1.set j v) S := by
  obtain ⟨⟨e1, e2, e3, e4, e5⟩, ⟨r1, r2, r3, r4, r5, r6, r7, r8, r9, r10, r11⟩, hg, ⟨hs, hsl⟩, hk⟩ := h
  refine ⟨⟨e1, e2, e3, e4, e5⟩, ⟨r1, r2, r3, r4, r5, r6, ?_, nums_other r8 r6 _, nums_set r9 j v, r10, by simpa using r11⟩, ?_, ⟨nums_other hs e4 _, hsl⟩, grown_far hk r3 _⟩
  · rw [heap_set_other r5]; exact r7
  · rw [heap_set_other (by omega)]; exact hg
theorem RState.step (h : RState w W g g3 g0 g1 gs sa sb x2 x3 x4 nm m L0 L1 S) (j : Nat) (v : Int) : RState w (W.setCell ⟨gs, j, none⟩ (.int .u8 v)) g g3 g0 g1 gs sa sb x2 x3 x4 nm m L0 L1 (S.set j v) := by
  obtain ⟨⟨e1, e2, e3, e4, e5⟩, ⟨r1, r2, r3, r4, r5, r6, r7, r8, r9, r10, r11⟩, hg, ⟨hs, hsl⟩, hk⟩ := h
  refine ⟨⟨e1, e2, e3, e4, e5⟩, ⟨r1, r2, r3, r4, r5, r6, ?_, nums_other r8 (Ne.symm e3) _, nums_other r9 (Ne.symm e4) _, r10, r11⟩, ?_, ⟨nums_set hs j v, by simpa using hsl⟩, grown_far hk e1 _⟩
  · rw [heap_set_other (Ne.symm e2)]; exact r7
  · rw [heap_set_other (by omega)]; exact hg
theorem RState.drewN (h : RState w W g g3 g0 g1 gs sa sb x2 x3 x4 nm m L0 L1 S) (n : Nat) : RState w (W.drewN n) g g3 g0 g1 gs sa sb x2 x3 x4 nm m L0 L1 S := by
  obtain ⟨e, r, hg, hs, hk⟩ := h
  exact ⟨e, r, hg, hs, grown_drewN hk n⟩
theorem RState.swap (h : RState w W g g3 g0 g1 gs sa sb x2 x3 x4 nm m L0 L1 S) : RState w ((W.setCell ⟨g3, 0, none⟩ (.slice (some ⟨g1, 0, none⟩) (m + 1) (m + 1))).setCell ⟨g3, 1, none⟩ (.slice (some ⟨g0, 0, none⟩) (m + 1) (m + 1))) g g3 g1 g0 gs sa sb x2 x3 x4 nm m L1 L0 S := by
  obtain ⟨⟨e1, e2, e3, e4, e5⟩, ⟨r1, r2, r3, r4, r5, r6, r7, r8, r9, r10, r11⟩, hg, ⟨hs, hsl⟩, hk⟩ := h
  refine ⟨⟨e1, e2, e4, e3, e5⟩, ⟨r1, r3, r2, r5, r4, Ne.symm r6, ?_, nums_other (nums_other r9 (Ne.symm r5) _) (Ne.symm r5) _, nums_other (nums_other r8 (Ne.symm r4) _) (Ne.symm r4) _, r11, r10⟩, ?_, ⟨nums_other (nums_other hs e2 _) e2 _, hsl⟩, grown_far (grown_far hk r1 _) r1 _⟩
  · rw [heap_set_same (heap_set_same r7 _)]; rfl
  · rw [heap_set_other (by omega), heap_set_other (by omega)]; exact hg
end
theorem elem_cell {W : World} {A : Option Addr} {xs : List Int} {i : Nat} {x : Int} (h : Kd.C (Kd.int .i64) W A xs.length xs) (hx : xs[i]? = some x) : ∃ ad, A = some ad ∧ W.cell? (ad.add i) = some (.int .i64 x) := by
  have hi := (List.getElem?_eq_some_iff.1 hx).1
  obtain ⟨ad, e, hc⟩ := Kd.at_int h (i : Int) (by omega) (by omega)
  refine ⟨ad, e, ?_⟩
  rw [Int.toNat_natCast] at hc
  rw [hc]
  simp [rd, hx]

/-- A row from the place q on. -/
def RowFrom (a b : List Int) (i q : Nat) (L : List Int) : Prop := ∀ j, q ≤ j → j ≤ b.length → L[j]? = some ((lcsL (a.drop i) (b.drop j) : Nat) : Int)
/-- The steps from the place c on; noughts ahead. -/
def StepsFrom (a b : List Int) (c : Nat) (S : List Int) : Prop := ∀ x, x < a.length * b.length → S[x]? = some (if x < c then 0 else stepAt (a.drop (x / b.length)) (b.drop (x % b.length)))

theorem place_div {m i j : Nat} (hj : j < m) : (i * m + j) / m = i ∧ (i * m + j) % m = j := by
  constructor
  · rw [Nat.mul_comm, Nat.mul_add_div (by omega), Nat.div_eq_of_lt hj, Nat.add_zero]
  · rw [Nat.mul_comm, Nat.mul_add_mod, Nat.mod_eq_of_lt hj]
theorem place_lt {n m i j : Nat} (hi : i < n) (hj : j < m) : i * m + j < n * m := by
  have : (i + 1) * m ≤ n * m := Nat.mul_le_mul_right _ hi
  rw [Nat.succ_mul] at this
  omega
theorem drop_cons' {l : List Int} {i : Nat} {x : Int} (h : l[i]? = some x) : l.drop i = x :: l.drop (i + 1) := by
  obtain ⟨hl, rfl⟩ := List.getElem?_eq_some_iff.1 h
  exact List.drop_eq_getElem_cons hl

section
variable {a b L0 L1 S : List Int} {i j : Nat} {x y : Int}
theorem row_one (h : RowFrom a b i (j + 1) L1) (hj : j < b.length) (hl : L1.length = b.length + 1) {v : Int} (hv : v = ((lcsL (a.drop i) (b.drop j) : Nat) : Int)) : RowFrom a b i j (L1.set j v) := by
  intro k hk hkb
  rcases Nat.lt_or_ge j k with h1 | h1
  · rw [List.getElem?_set_ne (by omega)]
    exact h k h1 hkb
  · obtain rfl : k = j := by omega
    rw [List.getElem?_set_self (by omega), hv]
theorem lcs_eq (hx : a[i]? = some x) (hy : b[j]? = some y) (e : x = y) : lcsL (a.drop i) (b.drop j) = lcsL (a.drop (i + 1)) (b.drop (j + 1)) + 1 := by
  rw [drop_cons' hx, drop_cons' hy, lcsL_cons, if_pos e]
theorem lcs_ne (hx : a[i]? = some x) (hy : b[j]? = some y) (e : ¬ x = y) : lcsL (a.drop i) (b.drop j) = max (lcsL (a.drop (i + 1)) (b.drop j)) (lcsL (a.drop i) (b.drop (j + 1))) := by
  rw [drop_cons' hx, drop_cons' hy, lcsL_cons, if_neg e]
theorem step_eq (hx : a[i]? = some x) (hy : b[j]? = some y) (e : x = y) : stepAt (a.drop i) (b.drop j) = 0 := by
  rw [drop_cons' hx, drop_cons' hy, stepAt, if_pos e]
theorem step_old (hx : a[i]? = some x) (hy : b[j]? = some y) (e : ¬ x = y) (h : lcsL (a.drop i) (b.drop (j + 1)) ≤ lcsL (a.drop (i + 1)) (b.drop j)) : stepAt (a.drop i) (b.drop j) = 1 := by
  rw [drop_cons' hx, drop_cons' hy, stepAt, if_neg e, if_pos]
  rwa [← drop_cons' hx, ← drop_cons' hy]
theorem step_fresh (hx : a[i]? = some x) (hy : b[j]? = some y) (e : ¬ x = y) (h : ¬ lcsL (a.drop i) (b.drop (j + 1)) ≤ lcsL (a.drop (i + 1)) (b.drop j)) : stepAt (a.drop i) (b.drop j) = 2 := by
  rw [drop_cons' hx, drop_cons' hy, stepAt, if_neg e, if_neg]
  rwa [← drop_cons' hx, ← drop_cons' hy]
theorem steps_same (h : StepsFrom a b (i * b.length + (j + 1)) S) (hj : j < b.length) (hs : stepAt (a.drop i) (b.drop j) = 0) : StepsFrom a b (i * b.length + j) S := by
  intro k hk
  rw [h k hk]
  by_cases e : k = i * b.length + j
  · subst e
    rw [if_pos (by omega), if_neg (by omega), (place_div hj).1, (place_div hj).2, hs]
  · by_cases h2 : k < i * b.length + j
    · rw [if_pos (by omega), if_pos h2]
    · rw [if_neg (by omega), if_neg h2]
theorem steps_one (h : StepsFrom a b (i * b.length + (j + 1)) S) (hj : j < b.length) (hl : S.length = a.length * b.length) {v : Int} (hs : stepAt (a.drop i) (b.drop j) = v) : StepsFrom a b (i * b.length + j) (S.set (i * b.length + j) v) := by
  intro k hk
  by_cases e : k = i * b.length + j
  · subst e
    rw [List.getElem?_set_self (by omega), if_neg (by omega), (place_div hj).1, (place_div hj).2, hs]
  · rw [List.getElem?_set_ne (Ne.symm e), h k hk]
    by_cases h2 : k < i * b.length + j
    · rw [if_pos (by omega), if_pos h2]
    · rw [if_neg (by omega), if_neg h2]
end
set_option maxHeartbeats 8000000 in
set_option maxRecDepth 100000 in
theorem reckon_calls (g N : Nat) (Aa Ab : Option Addr) (ca cb : Nat) (x2 x3 x4 : Value) (a b : List Int) (w : World)
    (hg : w.heap[g]? = some (.cells #[.slice Aa a.length ca, .slice Ab b.length cb, x2, x3, x4, .slice none 0 0, .int .i64 0] 103 (0, 0)))
    (ha : Kd.F (Kd.int .i64) w (fun k => k ≠ g) Aa a.length a) (hb : Kd.F (Kd.int .i64) w (fun k => k ≠ g) Ab b.length b) (hla : a.length ≤ 2000) (hlb : b.length ≤ 2000) :
    Calls Try.prog 59 #[.pointer (some ⟨g, 0, none⟩)] w fun e w' => e = .returned (.tuple #[]) ∧ (∃ gs : Nat, w.heap.size ≤ gs ∧ w'.heap[g]? = some (.cells #[.slice Aa a.length ca, .slice Ab b.length cb, x2, x3, x4, .slice (some ⟨gs, 0, none⟩) (a.length * b.length) (a.length * b.length), .int .i64 (lcsL a b : Int)] 103 (0, 0)) ∧ NumsAt .u8 w' 5 gs (stepsOf a b)) ∧ w.grownBy w' (some g) := by
  have Hg := Aside0.mk hg
  have Ha := Aside0.mk ha
  have Hb := Aside0.mk hb
  have c1 : w.cell? ⟨g, 1, none⟩ = some (.slice Ab b.length cb) := cell_blk hg rfl
  clear hg ha hb
  obtain ⟨i0, hi0, hz0⟩ := Option.map_eq_some_iff.1 info3
  simp only [Prod.mk.injEq] at hz0
  obtain ⟨hz, hsz, hby⟩ := hz0
  have hmk : ∀ W : World, (Instr.makeSlice 49 (.int .i64 ((b.length : Int) + 1)) (.int .i64 ((b.length : Int) + 1))).run Try.prog W = .ok (.slice (some ⟨W.heap.size, 0, none⟩) (b.length + 1) (b.length + 1)) (W.alloc (.cells ((List.replicate (b.length + 1) 0).map (Value.int .i64)).toArray 3)) := by
    intro W
    have h := run_make (P := Try.prog) W 49 3 i0 (.int .i64 0) Try.underlying49 hi0 hz .i64 .i64 ((b.length : Int) + 1) ((b.length : Int) + 1) (by omega) (by omega) (by rw [hby]; omega) (by omega)
    rw [h, hsz]
    simp only [show ((b.length : Int) + 1).toNat = b.length + 1 from by omega]
    rw [show (Value.int IntKind.i64 0).cells = #[Value.int .i64 0] from rfl, madeCells_one, List.map_replicate]
  obtain ⟨j0, hj0, hy0⟩ := Option.map_eq_some_iff.1 info5
  simp only [Prod.mk.injEq] at hy0
  obtain ⟨hyz, hysz, hyby⟩ := hy0
  have hp1 : (a.length : Int) * (b.length : Int) ≤ 4000000 := by
    have := Nat.mul_le_mul hla hlb
    rw [← Int.natCast_mul]
    omega
  have hp0 : 0 ≤ (a.length : Int) * (b.length : Int) := by
    rw [← Int.natCast_mul]
    omega
  have hmk2 : ∀ W : World, (Instr.makeSlice 65 (.int .i64 ((a.length : Int) * (b.length : Int))) (.int .i64 ((a.length : Int) * (b.length : Int)))).run Try.prog W = .ok (.slice (some ⟨W.heap.size, 0, none⟩) (a.length * b.length) (a.length * b.length)) (W.alloc (.cells ((List.replicate (a.length * b.length) 0).map (Value.int .u8)).toArray 5)) := by
    intro W
    have h := run_make (P := Try.prog) W 65 5 j0 (.int .u8 0) Try.underlying65 hj0 hyz .i64 .i64 ((a.length : Int) * (b.length : Int)) ((a.length : Int) * (b.length : Int)) hp0 (by omega) (by rw [hyby]; omega) (by omega)
    rw [h, hysz]
    simp only [show ((a.length : Int) * (b.length : Int)).toNat = a.length * b.length from by rw [← Int.natCast_mul]; exact Int.toNat_natCast _]
    rw [show (Value.int IntKind.u8 0).cells = #[Value.int .u8 0] from rfl, madeCells_one, List.map_replicate]
  clear hi0 hz hsz hby i0 hj0 hyz hysz hyby j0
  go_enter Try.func59, Try.ntmps59
  go_upto_region 1 with fail
  go_cut [3] (fun s3 W => ∃ g3 g0 g1 : Nat, s3 = .pointer (some ⟨g3, 0, none⟩) ∧ Aside0 (RowsAt W w.heap.size g3 g0 g1 b.length (List.replicate (b.length + 1) 0) (List.replicate (b.length + 1) 0)) ∧ Aside0 (Below w.heap.size w W))
  case first =>
    go_region
    all_goals
      go_wp2_with fail
      go_meet
      first
      | exact ⟨w.heap.size, w.heap.size + 1, w.heap.size + 1 + 1, rfl, ⟨⟨by omega, by omega, by omega, by omega, by omega, by omega, (alloc3 w _ _ _).1, nums_rep (alloc3 w _ _ _).2.1, nums_rep (alloc3 w _ _ _).2.2.1, by simp, by simp⟩⟩, ⟨(alloc3 w _ _ _).2.2.2⟩⟩
      | exact ⟨w.heap.size, w.heap.size + 1 + 1, w.heap.size + 1, rfl, ⟨⟨by omega, by omega, by omega, by omega, by omega, by omega, (alloc3 w _ _ _).1, nums_rep (alloc3 w _ _ _).2.2.1, nums_rep (alloc3 w _ _ _).2.1, by simp, by simp⟩⟩, ⟨(alloc3 w _ _ _).2.2.2⟩⟩
      | exact ⟨w.heap.size + 1, w.heap.size, w.heap.size + 1 + 1, rfl, ⟨⟨by omega, by omega, by omega, by omega, by omega, by omega, (alloc3 w _ _ _).2.1, nums_rep (alloc3 w _ _ _).1, nums_rep (alloc3 w _ _ _).2.2.1, by simp, by simp⟩⟩, ⟨(alloc3 w _ _ _).2.2.2⟩⟩
      | exact ⟨w.heap.size + 1, w.heap.size + 1 + 1, w.heap.size, rfl, ⟨⟨by omega, by omega, by omega, by omega, by omega, by omega, (alloc3 w _ _ _).2.1, nums_rep (alloc3 w _ _ _).2.2.1, nums_rep (alloc3 w _ _ _).1, by simp, by simp⟩⟩, ⟨(alloc3 w _ _ _).2.2.2⟩⟩
      | exact ⟨w.heap.size + 1 + 1, w.heap.size, w.heap.size + 1, rfl, ⟨⟨by omega, by omega, by omega, by omega, by omega, by omega, (alloc3 w _ _ _).2.2.1, nums_rep (alloc3 w _ _ _).1, nums_rep (alloc3 w _ _ _).2.1, by simp, by simp⟩⟩, ⟨(alloc3 w _ _ _).2.2.2⟩⟩
      | exact ⟨w.heap.size + 1 + 1, w.heap.size + 1, w.heap.size, rfl, ⟨⟨by omega, by omega, by omega, by omega, by omega, by omega, (alloc3 w _ _ _).2.2.1, nums_rep (alloc3 w _ _ _).2.1, nums_rep (alloc3 w _ _ _).1, by simp, by simp⟩⟩, ⟨(alloc3 w _ _ _).2.2.2⟩⟩
  case rest =>
    obtain ⟨g3, g0, g1, rfl, HR, HB⟩ := hcut
    have hgc : wc.heap[g]? = _ := (HB.out.block g (blk_lt Hg.out)).trans Hg.out
    have d0 : wc.cell? ⟨g, 0, none⟩ = some (.slice Aa a.length ca) := cell_blk hgc rfl
    have d1 : wc.cell? ⟨g, 1, none⟩ = some (.slice Ab b.length cb) := cell_blk hgc rfl
    have d5 : wc.cell? ⟨g, 5, none⟩ = some (.slice none 0 0) := cell_blk hgc rfl
    have f5 : wc.frozen? ⟨g, 5, none⟩ = false := blk_frozen hgc _
    have Hgc := Aside0.mk hgc
    clear hgc c1
    have hgw : g < wc.heap.size := blk_lt Hgc.out
    have hgne : g ≠ wc.heap.size := by omega
    go_wp2_with (first | ((with_reducible refine gate_dst (N := 28) rfl ?_); refine event_at (v := .slice (some ⟨wc.heap.size, 0, none⟩) (a.length * b.length) (a.length * b.length)) (w1 := wc.alloc (.cells ((List.replicate (a.length * b.length) 0).map (Value.int .u8)).toArray 5)) ?hg ?hr ?_; (case hg => rfl); (case hr => first | (go_simp; done) | (go_simp; rfl)); intro w1 HW1; (have e5 : w1.cell? ⟨g, 5, none⟩ = some (.slice none 0 0) := (by rw [HW1.out]; exact cell_alloc_of d5 _)); (have g5 : w1.frozen? ⟨g, 5, none⟩ = false := (by rw [HW1.out]; rw [World.frozen?_alloc_past _ _ _ hgw]; exact f5))) | ((with_reducible refine gate_store (t := 65) (p := 30) rfl ?_); refine store_at (t := 65) (p := 30) (v := ?vo_) (w1 := w1.setCell ⟨g, 5, none⟩ (.slice (some ⟨wc.heap.size, 0, none⟩) (a.length * b.length) (a.length * b.length))) ?hg ?ho ?hn ?hr ?_; (case ho => rfl); (case hg => rfl); (case hn => rfl); (case hr => first | (go_simp; done) | (go_simp; rfl)); intro w2 HW2; (have q0 : w2.cell? ⟨g, 0, none⟩ = some (.slice Aa a.length ca) := (by rw [HW2.out, HW1.out, World.cell?_setCell_other _ _ _ _ (by simp)]; exact cell_alloc_of d0 _))))
    have hst : RState w w2 g g3 g0 g1 wc.heap.size (.slice Aa a.length ca) (.slice Ab b.length cb) x2 x3 x4 (a.length * b.length) b.length (List.replicate (b.length + 1) 0) (List.replicate (b.length + 1) 0) (List.replicate (a.length * b.length) 0) := by
      obtain ⟨r1, r2, r3, r4, r5, r6, r7, r8, r9, r10, r11⟩ := HR.out
      have hlt : g < w.heap.size := blk_lt Hg.out
      have l3 := blk_lt r7
      have l0 := blk_lt r8
      have l1 := blk_lt r9
      have hal : ∀ k, k < wc.heap.size → (wc.alloc (.cells ((List.replicate (a.length * b.length) 0).map (Value.int .u8)).toArray 5)).heap[k]? = wc.heap[k]? := fun k hk => heap_alloc_old _ _ hk
      have hgn : w1.heap[g]? = some (.cells #[.slice Aa a.length ca, .slice Ab b.length cb, x2, x3, x4, .slice none 0 0, .int .i64 0] 103 (0, 0)) := by rw [HW1.out, hal g hgw]; exact Hgc.out
      refine ⟨⟨HB.out.size, by omega, by omega, by omega, hlt⟩, ⟨r1, r2, r3, r4, r5, r6, ?_, ?_, ?_, r10, r11⟩, ?_, ⟨?_, by simp⟩, ?_⟩
      · rw [HW2.out, heap_set_other (by omega), HW1.out, hal g3 l3]; exact r7
      · unfold NumsAt; rw [HW2.out, heap_set_other (by omega), HW1.out, hal g0 l0]; exact r8
      · unfold NumsAt; rw [HW2.out, heap_set_other (by omega), HW1.out, hal g1 l1]; exact r9
      · rw [HW2.out, heap_set_same hgn]; rfl
      · unfold NumsAt; rw [HW2.out, heap_set_other (by omega), HW1.out]; exact blk_new _ _
      · rw [HW2.out, HW1.out]; exact grown_set (grown_alloc (grown_of_below HB.out (some g)) _) _ _
    have HST := Aside0.mk hst
    clear hst HW1 HW2 HR HB
    go_loopw [4] (fun s4 W => ∃ (x4_ : Int) (g0_ g1_ : Nat) (L0 L1 S : List Int), s4 = .int .i64 x4_ ∧ -1 ≤ x4_ ∧ x4_ < (a.length : Int) ∧ Aside0 (RState w W g g3 g0_ g1_ wc.heap.size (.slice Aa a.length ca) (.slice Ab b.length cb) x2 x3 x4 (a.length * b.length) b.length L0 L1 S) ∧ Aside0 (RowFrom a b (x4_ + 1).toNat 0 L0) ∧ Aside0 (L1[b.length]? = some 0) ∧ Aside0 (StepsFrom a b ((x4_ + 1).toNat * b.length) S)) (fun s4 _ => (intOf s4 + 1).toNat)
    case atStart =>
      have hd : ((a.length : Int) - 1 + 1).toNat = a.length := by omega
      refine ⟨(a.length : Int) - 1, g0, g1, _, _, _, rfl, by omega, by omega, HST, ⟨?_⟩, ⟨?_⟩, ⟨?_⟩⟩
      · rw [hd]
        intro k hk1 hk2
        rw [List.getElem?_replicate, if_pos (by omega)]
        simp
      · rw [List.getElem?_replicate, if_pos (by omega)]
      · rw [hd]
        intro k hk
        rw [List.getElem?_replicate, if_pos hk, if_pos hk]
    case round =>
      obtain ⟨x4_, g0_, g1_, L0, L1, S, rfl, h1, h2, HS, HL0, HL1, HT⟩ := hrel
      by_cases hx : 0 ≤ x4_
      · obtain ⟨i, rfl⟩ := Int.eq_ofNat_of_zero_le hx
        have c30 : wr.cell? ⟨g3, 0, none⟩ = some (.slice (some ⟨g0_, 0, none⟩) (b.length + 1) (b.length + 1)) := cell_blk HS.out.2.1.2.2.2.2.2.2.1 rfl
        have c31 : wr.cell? ⟨g3, 1, none⟩ = some (.slice (some ⟨g1_, 0, none⟩) (b.length + 1) (b.length + 1)) := cell_blk HS.out.2.1.2.2.2.2.2.2.1 rfl
        go_wp2
        go_quiet (fail)
        go_wp2
        go_loopw [7] (fun s7 W => ∃ (x7 : Int) (L1' S' : List Int), s7 = .int .i64 x7 ∧ -1 ≤ x7 ∧ x7 < (b.length : Int) ∧ Aside0 (RState w W g g3 g0_ g1_ wc.heap.size (.slice Aa a.length ca) (.slice Ab b.length cb) x2 x3 x4 (a.length * b.length) b.length L0 L1' S') ∧ Aside0 (RowFrom a b i (x7 + 1).toNat L1') ∧ Aside0 (L1'[b.length]? = some 0) ∧ Aside0 (StepsFrom a b (i * b.length + (x7 + 1).toNat) S')) (fun s7 _ => (intOf s7 + 1).toNat)
        case atStart =>
          have hd : ((b.length : Int) - 1 + 1).toNat = b.length := by omega
          have hd2 : ((i : Int) + 1).toNat * b.length = i * b.length + b.length := by rw [show ((i : Int) + 1).toNat = i + 1 from by omega, Nat.succ_mul]
          refine ⟨(b.length : Int) - 1, L1, S, rfl, by omega, by omega, ⟨HS.out.drewN _⟩, ⟨?_⟩, HL1, ⟨?_⟩⟩
          · rw [hd]
            intro k hk1 hk2
            obtain rfl : k = b.length := by omega
            rw [HL1.out]
            simp
          · rw [hd, ← hd2]; exact HT.out
        case round =>
          clear HS HL1 HT c30 c31
          obtain ⟨x7, L1, S, rfl, h3, h4, HS, HR, HL1, HT⟩ := hrel
          by_cases hx7 : 0 ≤ x7
          · obtain ⟨j, rfl⟩ := Int.eq_ofNat_of_zero_le hx7
            have hi : i < a.length := by omega
            have hj : j < b.length := by omega
            rw [show ((j : Int) + 1).toNat = j + 1 from by omega] at HR HT
            obtain ⟨x, hxa⟩ : ∃ x, a[i]? = some x := ⟨_, List.getElem?_eq_getElem hi⟩
            obtain ⟨y, hyb⟩ : ∃ y, b[j]? = some y := ⟨_, List.getElem?_eq_getElem hj⟩
            have Hxa := Aside0.mk hxa
            have Hyb := Aside0.mk hyb
            obtain ⟨ada, rfl, k1⟩ := elem_cell (Ha.out wr (fun k hk hlt => HS.out.2.2.2.2.block k hlt (fun e => hk (Option.some.inj e)))) hxa
            obtain ⟨adb, rfl, k2⟩ := elem_cell (Hb.out wr (fun k hk hlt => HS.out.2.2.2.2.block k hlt (fun e => hk (Option.some.inj e)))) hyb
            clear hxa hyb
            have c0 : wr.cell? ⟨g, 0, none⟩ = some (.slice (some ada) a.length ca) := cell_blk HS.out.2.2.1 rfl
            have c1 : wr.cell? ⟨g, 1, none⟩ = some (.slice (some adb) b.length cb) := cell_blk HS.out.2.2.1 rfl
            obtain ⟨v0, hv0⟩ : ∃ v : Int, v = ((lcsL (a.drop (i + 1)) (b.drop (j + 1)) : Nat) : Int) := ⟨_, rfl⟩
            obtain ⟨v1, hv1⟩ : ∃ v : Int, v = ((lcsL (a.drop (i + 1)) (b.drop j) : Nat) : Int) := ⟨_, rfl⟩
            obtain ⟨v2, hv2⟩ : ∃ v : Int, v = ((lcsL (a.drop i) (b.drop (j + 1)) : Nat) : Int) := ⟨_, rfl⟩
            obtain ⟨v3, hv3⟩ : ∃ v : Int, L1[j]? = some v := ⟨_, List.getElem?_eq_getElem (by have := HS.out.2.1.2.2.2.2.2.2.2.2.2.2; omega)⟩
            have b0 : 0 ≤ v0 ∧ v0 ≤ 2000 := by
              have := lcsL_le_right (a.drop (i + 1)) (b.drop (j + 1))
              rw [List.length_drop] at this
              omega
            have q0 := HL0.out (j + 1) (by omega) (by omega)
            have q1 := HL0.out j (by omega) (by omega)
            have q2 := HR.out (j + 1) (by omega) (by omega)
            rw [show ((i : Int) + 1).toNat = i + 1 from by omega, ← hv0] at q0
            rw [show ((i : Int) + 1).toNat = i + 1 from by omega, ← hv1] at q1
            rw [← hv2] at q2
            have Q0 := Aside0.mk q0
            have Q1 := Aside0.mk q1
            have Q2 := Aside0.mk q2
            have Q3 := Aside0.mk hv3
            have V0 := Aside0.mk hv0
            have V1 := Aside0.mk hv1
            have V2 := Aside0.mk hv2
            clear q0 q1 q2 hv3 hv0 hv1 hv2
            have s1 : IntKind.i64.wrap ((j : Int) + 1) = (j : Int) + 1 := IntWalk.i64_in _ (by omega)
            have s2 : ((j : Int) + 1).toNat = j + 1 := by omega
            by_cases e : x = y
            · have eb : (x == y) = true := beq_iff_eq.2 e
              have E := Aside0.mk e
              clear e
              go_wp2
              go_quiet (fail)
              obtain ⟨wd, hwd⟩ : ∃ wd, wd = wr.drewN nq := ⟨_, rfl⟩
              rw [← hwd]
              have HSd := Aside0.mk (show RState w wd g g3 g0_ g1_ wc.heap.size (.slice (some ada) a.length ca) (.slice (some adb) b.length cb) x2 x3 x4 (a.length * b.length) b.length L0 L1 S by rw [hwd]; exact HS.out.drewN _)
              have m0 : wd.cell? ⟨g0_, j + 1, none⟩ = some (.int .i64 v0) := nums_cell HSd.out.2.1.2.2.2.2.2.2.2.1 Q0.out
              have m3 : wd.cell? ⟨g1_, j, none⟩ = some (.int .i64 v3) := nums_cell HSd.out.2.1.2.2.2.2.2.2.2.2.1 Q3.out
              have z3 : wd.frozen? ⟨g1_, j, none⟩ = false := blk_frozen HSd.out.2.1.2.2.2.2.2.2.2.2.1 _
              clear hwd c0 c1 k1 k2
              go_wp2
              go_roundw
              case measure => simp [intOf]
              case rel =>
                have hd : ((j : Int) - 1 + 1).toNat = j := by omega
                refine ⟨(j : Int) - 1, L1.set j (v0 + 1), S, rfl, by omega, by omega, ⟨HSd.out.row j (v0 + 1)⟩, ⟨?_⟩, ⟨?_⟩, ⟨?_⟩⟩
                · rw [hd]; exact row_one HR.out hj (by have := HSd.out.2.1.2.2.2.2.2.2.2.2.2.2; omega) (by rw [lcs_eq Hxa.out Hyb.out E.out, V0.out]; rfl)
                · rw [List.getElem?_set_ne (by omega)]; exact HL1.out
                · rw [hd]; exact steps_same HT.out hj (step_eq Hxa.out Hyb.out E.out)
            · have eb : (x == y) = false := beq_eq_false_iff_ne.2 e
              have E := Aside0.mk e
              clear e
              have hij := place_lt hi hj
              have p1 : (i : Int) * (b.length : Int) + (j : Int) < (a.length : Int) * (b.length : Int) := by
                rw [← Int.natCast_mul, ← Int.natCast_mul]; omega
              have p0 : 0 ≤ (i : Int) * (b.length : Int) := by rw [← Int.natCast_mul]; omega
              have p2 : ((i : Int) * (b.length : Int) + (j : Int)).toNat = i * b.length + j := by rw [← Int.natCast_mul]; omega
              obtain ⟨sv, hsv⟩ : ∃ v : Int, S[i * b.length + j]? = some v := ⟨_, List.getElem?_eq_getElem (by have := HS.out.2.2.2.1.2; omega)⟩
              have QS := Aside0.mk hsv
              clear hsv hij
              go_wp2
              go_quiet (fail)
              go_wp2
              obtain ⟨wd, hwd⟩ : ∃ wd, wd = wr.drewN nq := ⟨_, rfl⟩
              rw [← hwd]
              have HSd := Aside0.mk (show RState w wd g g3 g0_ g1_ wc.heap.size (.slice (some ada) a.length ca) (.slice (some adb) b.length cb) x2 x3 x4 (a.length * b.length) b.length L0 L1 S by rw [hwd]; exact HS.out.drewN _)
              have m1 : wd.cell? ⟨g0_, j, none⟩ = some (.int .i64 v1) := nums_cell HSd.out.2.1.2.2.2.2.2.2.2.1 Q1.out
              have m2 : wd.cell? ⟨g1_, j + 1, none⟩ = some (.int .i64 v2) := nums_cell HSd.out.2.1.2.2.2.2.2.2.2.2.1 Q2.out
              clear hwd c0 c1 k1 k2
              by_cases hle : v2 ≤ v1
              · have hle' := Aside0.mk hle
                have hb : decide (v2 ≤ v1) = true := decide_eq_true hle
                clear hle
                go_quiet (fail)
                obtain ⟨we, hwe⟩ : ∃ we, we = wd.drewN nq := ⟨_, rfl⟩
                rw [← hwe]
                have HSe := Aside0.mk (show RState w we g g3 g0_ g1_ wc.heap.size (.slice (some ada) a.length ca) (.slice (some adb) b.length cb) x2 x3 x4 (a.length * b.length) b.length L0 L1 S by rw [hwe]; exact HSd.out.drewN _)
                clear hwe m1 m2
                have m1 : we.cell? ⟨g0_, j, none⟩ = some (.int .i64 v1) := nums_cell HSe.out.2.1.2.2.2.2.2.2.2.1 Q1.out
                have m2 : we.cell? ⟨g1_, j + 1, none⟩ = some (.int .i64 v2) := nums_cell HSe.out.2.1.2.2.2.2.2.2.2.2.1 Q2.out
                have m3 : we.cell? ⟨g1_, j, none⟩ = some (.int .i64 v3) := nums_cell HSe.out.2.1.2.2.2.2.2.2.2.2.1 Q3.out
                have z3 : we.frozen? ⟨g1_, j, none⟩ = false := blk_frozen HSe.out.2.1.2.2.2.2.2.2.2.2.1 _
                have HS2 := Aside0.mk (HSe.out.row j v1)
                have n5 : (we.setCell ⟨g1_, j, none⟩ (.int .i64 v1)).cell? ⟨g, 5, none⟩ = some (.slice (some ⟨wc.heap.size, 0, none⟩) (a.length * b.length) (a.length * b.length)) := cell_blk HS2.out.2.2.1 rfl
                have nS : (we.setCell ⟨g1_, j, none⟩ (.int .i64 v1)).cell? ⟨wc.heap.size, i * b.length + j, none⟩ = some (.int .u8 sv) := nums_cell HS2.out.2.2.2.1.1 QS.out
                have zS : (we.setCell ⟨g1_, j, none⟩ (.int .i64 v1)).frozen? ⟨wc.heap.size, i * b.length + j, none⟩ = false := blk_frozen HS2.out.2.2.2.1.1 _
                go_wp2
                go_roundw
                case measure => simp [intOf]
                case rel =>
                  have hd : ((j : Int) - 1 + 1).toNat = j := by omega
                  have hvv : lcsL (a.drop i) (b.drop (j + 1)) ≤ lcsL (a.drop (i + 1)) (b.drop j) ↔ v2 ≤ v1 := by rw [V1.out, V2.out]; omega
                  refine ⟨(j : Int) - 1, L1.set j v1, S.set (i * b.length + j) 1, rfl, by omega, by omega, ⟨HS2.out.step _ _⟩, ⟨?_⟩, ⟨?_⟩, ⟨?_⟩⟩
                  · rw [hd]; exact row_one HR.out hj (by have := HSd.out.2.1.2.2.2.2.2.2.2.2.2.2; omega) (by rw [lcs_ne Hxa.out Hyb.out E.out]; rw [Nat.max_eq_left (hvv.2 hle'.out)]; exact V1.out)
                  · rw [List.getElem?_set_ne (by omega)]; exact HL1.out
                  · rw [hd]; exact steps_one HT.out hj HS.out.2.2.2.1.2 (step_old Hxa.out Hyb.out E.out (hvv.2 hle'.out))
              · have hle' := Aside0.mk hle
                have hb : decide (v2 ≤ v1) = false := decide_eq_false hle
                clear hle
                go_quiet (fail)
                obtain ⟨we, hwe⟩ : ∃ we, we = wd.drewN nq := ⟨_, rfl⟩
                rw [← hwe]
                have HSe := Aside0.mk (show RState w we g g3 g0_ g1_ wc.heap.size (.slice (some ada) a.length ca) (.slice (some adb) b.length cb) x2 x3 x4 (a.length * b.length) b.length L0 L1 S by rw [hwe]; exact HSd.out.drewN _)
                clear hwe m1 m2
                have m1 : we.cell? ⟨g0_, j, none⟩ = some (.int .i64 v1) := nums_cell HSe.out.2.1.2.2.2.2.2.2.2.1 Q1.out
                have m2 : we.cell? ⟨g1_, j + 1, none⟩ = some (.int .i64 v2) := nums_cell HSe.out.2.1.2.2.2.2.2.2.2.2.1 Q2.out
                have m3 : we.cell? ⟨g1_, j, none⟩ = some (.int .i64 v3) := nums_cell HSe.out.2.1.2.2.2.2.2.2.2.2.1 Q3.out
                have z3 : we.frozen? ⟨g1_, j, none⟩ = false := blk_frozen HSe.out.2.1.2.2.2.2.2.2.2.2.1 _
                have HS2 := Aside0.mk (HSe.out.row j v2)
                have n5 : (we.setCell ⟨g1_, j, none⟩ (.int .i64 v2)).cell? ⟨g, 5, none⟩ = some (.slice (some ⟨wc.heap.size, 0, none⟩) (a.length * b.length) (a.length * b.length)) := cell_blk HS2.out.2.2.1 rfl
                have nS : (we.setCell ⟨g1_, j, none⟩ (.int .i64 v2)).cell? ⟨wc.heap.size, i * b.length + j, none⟩ = some (.int .u8 sv) := nums_cell HS2.out.2.2.2.1.1 QS.out
                have zS : (we.setCell ⟨g1_, j, none⟩ (.int .i64 v2)).frozen? ⟨wc.heap.size, i * b.length + j, none⟩ = false := blk_frozen HS2.out.2.2.2.1.1 _
                go_wp2
                go_roundw
                case measure => simp [intOf]
                case rel =>
                  have hd : ((j : Int) - 1 + 1).toNat = j := by omega
                  have hvv : lcsL (a.drop i) (b.drop (j + 1)) ≤ lcsL (a.drop (i + 1)) (b.drop j) ↔ v2 ≤ v1 := by rw [V1.out, V2.out]; omega
                  refine ⟨(j : Int) - 1, L1.set j v2, S.set (i * b.length + j) 2, rfl, by omega, by omega, ⟨HS2.out.step _ _⟩, ⟨?_⟩, ⟨?_⟩, ⟨?_⟩⟩
                  · rw [hd]; exact row_one HR.out hj (by have := HSd.out.2.1.2.2.2.2.2.2.2.2.2.2; omega) (by rw [lcs_ne Hxa.out Hyb.out E.out]; rw [Nat.max_eq_right (by have := mt hvv.1 hle'.out; omega)]; exact V2.out)
                  · rw [List.getElem?_set_ne (by omega)]; exact HL1.out
                  · rw [hd]; exact steps_one HT.out hj HS.out.2.2.2.1.2 (step_fresh Hxa.out Hyb.out E.out (mt hvv.1 hle'.out))
          · have hx7' : x7 = -1 := by omega
            subst hx7'
            have c30 : wr.cell? ⟨g3, 0, none⟩ = some (.slice (some ⟨g0_, 0, none⟩) (b.length + 1) (b.length + 1)) := cell_blk HS.out.2.1.2.2.2.2.2.2.1 rfl
            have c31 : wr.cell? ⟨g3, 1, none⟩ = some (.slice (some ⟨g1_, 0, none⟩) (b.length + 1) (b.length + 1)) := cell_blk HS.out.2.1.2.2.2.2.2.2.1 rfl
            have z30 : wr.frozen? ⟨g3, 0, none⟩ = false := blk_frozen HS.out.2.1.2.2.2.2.2.2.1 _
            have z31 : wr.frozen? ⟨g3, 1, none⟩ = false := blk_frozen HS.out.2.1.2.2.2.2.2.2.1 _
            go_wp2
            go_roundw
            case measure => simp [intOf]
            case rel =>
              have hd : ((i : Int) - 1 + 1).toNat = i := by omega
              refine ⟨(i : Int) - 1, g1_, g0_, L1, L0, S, rfl, by omega, by omega, ⟨HS.out.swap⟩, ⟨?_⟩, ⟨?_⟩, ⟨?_⟩⟩
              · rw [hd]; exact HR.out
              · rw [HL0.out b.length (Nat.zero_le _) (Nat.le_refl _)]; simp
              · rw [hd]; exact HT.out
      · have hx' : x4_ = -1 := by omega
        subst hx'
        have c30 : wr.cell? ⟨g3, 0, none⟩ = some (.slice (some ⟨g0_, 0, none⟩) (b.length + 1) (b.length + 1)) := cell_blk HS.out.2.1.2.2.2.2.2.2.1 rfl
        have c00 : wr.cell? ⟨g0_, 0, none⟩ = some (.int .i64 ((lcsL a b : Nat) : Int)) := by
          have h := nums_cell HS.out.2.1.2.2.2.2.2.2.2.1 (HL0.out 0 (Nat.le_refl _) (Nat.zero_le _))
          simpa using h
        have c6 : wr.cell? ⟨g, 6, none⟩ = some (.int .i64 0) := cell_blk HS.out.2.2.1 rfl
        have z6 : wr.frozen? ⟨g, 6, none⟩ = false := blk_frozen HS.out.2.2.1 _
        go_wp2
        go_end0
        obtain ⟨⟨e1, e2, e3, e4, e5⟩, hr, hg, ⟨hs, hsl⟩, hk⟩ := HS.out
        have hS : S = stepsOf a b := by
          apply List.ext_getElem?
          intro k
          rcases Nat.lt_or_ge k (a.length * b.length) with h | h
          · rw [HT.out k h, if_neg (by simp)]
            simp [stepsOf, h]
          · rw [List.getElem?_eq_none (by omega), List.getElem?_eq_none (by simp [stepsOf]; omega)]
        refine ⟨rfl, ⟨wc.heap.size, e1, ?_, ?_⟩, grown_set hk _ _⟩
        · rw [heap_set_same hg]; rfl
        · rw [← hS]; exact nums_other hs (by omega) _
end Go.Proofs.Ytnlekganlliikaa.X
-- part XLcs5
namespace Go.Proofs.Ytnlekganlliikaa.X
open Go.RowKit Go.Proofs.YtnlekganlliikaaW.PrintWords Go.Proofs.YtnlekganlliikaaW.PrintLast Go.Proofs.YtnlekganlliikaaW.PrintMore
set_option linter.unusedVariables false
set_option linter.unusedSimpArgs false
theorem race_disable (w : World) : (callFunc 104 #[]).run Try.prog w = .ok (.value (.tuple #[])) w := run_call_mark0 Try.func104 (by kernel_rfl) (by kernel_rfl) (by kernel_rfl) .disable (by kernel_rfl) w
theorem race_enable (w : World) : (callFunc 106 #[]).run Try.prog w = .ok (.value (.tuple #[])) w := run_call_mark0 Try.func106 (by kernel_rfl) (by kernel_rfl) (by kernel_rfl) .enable (by kernel_rfl) w
theorem race_acquire (a : Addr) (w : World) : (callFunc 107 #[.pointer (some a)]).run Try.prog w = .ok (.value (.tuple #[])) w := run_call_marked Try.func107 (by kernel_rfl) (by kernel_rfl) (by kernel_rfl) .acquire (by kernel_rfl) a w
theorem race_releaseMerge (a : Addr) (w : World) : (callFunc 109 #[.pointer (some a)]).run Try.prog w = .ok (.value (.tuple #[])) w := run_call_marked Try.func109 (by kernel_rfl) (by kernel_rfl) (by kernel_rfl) .releaseMerge (by kernel_rfl) a w

theorem store_deferred (a : Addr) (x : Value) (u : FrameMode) (w : World) (hc : w.cell? a = some x) (hz : w.frozen? a = false) :
    CallsD Try.prog 90 #[.pointer (some a), .bool true] u w fun e u' w' => u' = u ∧ (e = .returned (.tuple #[]) ∧ w' = w.drew.setCell a (.int .u32 1)) := by
  have hc' : w.drew.cell? a = some x := by go_simp
  have hz' : w.drew.frozen? a = false := by go_simp
  have hst := run_call_store (P := Try.prog) Try.func98 (by kernel_rfl) (by kernel_rfl) (by kernel_rfl) (by kernel_rfl) (k := .u32) (y := 1) hc' hz'
  go_enter_d Try.func90, Try.ntmps90
  go_wp2
  go_region_calls
  all_goals (go_end0; exact ⟨rfl, rfl⟩)

set_option maxRecDepth 100000 in
theorem unlock_deferred (a : Addr) (u : FrameMode) (w : World) (hc : w.cell? a = some (.int .i32 1)) (hz : w.frozen? a = false) :
    CallsD Try.prog 89 #[.pointer (some a)] u w fun e u' w' => u' = u ∧ (e = .returned (.tuple #[]) ∧ w' = w.setCell a (.int .i32 0)) := by
  have hd := race_disable
  have he := race_enable
  have hr := race_releaseMerge
  have hadd := run_call_add (P := Try.prog) Try.func110 (by kernel_rfl) (by kernel_rfl) (by kernel_rfl) .i32 (by kernel_rfl) (y := -1) (s := 0) hc hz (by simp [go_sem]; rfl)
  have hcv := run_convert_to_unsafe (P := Try.prog) (src := 156) (dst := 132) Try.underlying156 Try.underlying132 (by kernel_rfl) hc
  go_enter_d Try.func89, Try.ntmps89
  go_wp2
  go_end0
  go_wp2
  go_end0
  exact ⟨rfl, rfl⟩

set_option maxRecDepth 100000 in
theorem lock_free (a : Addr) (w : World) (hc : w.cell? a = some (.int .i32 0)) (hz : w.frozen? a = false) :
    Calls Try.prog 88 #[.pointer (some a)] w fun e w' => e = .returned (.tuple #[]) ∧ w' = w.setCell a (.int .i32 1) := by
  have hd := race_disable
  have he := race_enable
  have ha := race_acquire
  have hcas := run_call_cas_hit (P := Try.prog) Try.func105 (by kernel_rfl) (by kernel_rfl) (by kernel_rfl) .i32 (by kernel_rfl) (y := 1) hc hz
  have hc' : (w.setCell a (.int .i32 1)).cell? a = some (.int .i32 1) := World.cell?_setCell_same w a _ hc
  have hcv := run_convert_to_unsafe (P := Try.prog) (src := 156) (dst := 132) Try.underlying156 Try.underlying132 (by kernel_rfl) hc'
  go_enter Try.func88, Try.ntmps88
  go_wp2
  first | go_end0 | (simp only [Exit.inBlock, Exit.then]; refine bodyPost_ret (results_none rfl _ _ _) rfl ?_) | refine bodyPost_ret (results_none rfl _ _ _) rfl ?_
  go_wp2
  go_end0
  exact ⟨rfl, rfl⟩

theorem bool_load (a : Addr) (d : Int) (w : World) (h0 : w.cell? a = some (.int .u32 d)) : Calls Try.prog 80 #[.pointer (some a)] w fun e w' => e = .returned (.bool (d != 0)) ∧ w' = w := by
  have hl := run_call_load (P := Try.prog) Try.func87 (by kernel_rfl) (by kernel_rfl) (by kernel_rfl) .u32 (by kernel_rfl) h0
  go_enter Try.func80, Try.ntmps80
  go_wp2
  go_ret
  exact ⟨rfl, rfl⟩

set_option maxRecDepth 100000 in
set_option maxHeartbeats 1600000 in
/-- sync.Once's slow road, not yet done, the lock free. -/
theorem once_slow (g : Nat) (Aa Ab : Option Addr) (ca cb : Nat) (a b : List Int) (w : World)
    (hg : w.heap[g]? = some (.cells (pairCells (.slice Aa a.length ca) (.slice Ab b.length cb) (.slice none 0 0) 0 0) 103 (0, 0)))
    (ha : Kd.F (Kd.int .i64) w (fun k => k ≠ g) Aa a.length a) (hb : Kd.F (Kd.int .i64) w (fun k => k ≠ g) Ab b.length b) (hla : a.length ≤ 2000) (hlb : b.length ≤ 2000) :
    Calls Try.prog 81 #[.pointer (some ⟨g, 2, none⟩), .func (.func 59) #[.pointer (some ⟨g, 0, none⟩)] #[]] w fun e w' => e = .returned (.tuple #[]) ∧
      (∃ gs : Nat, w.heap.size ≤ gs ∧ w'.heap[g]? = some (.cells (pairCells (.slice Aa a.length ca) (.slice Ab b.length cb) (.slice (some ⟨gs, 0, none⟩) (a.length * b.length) (a.length * b.length)) 1 (lcsL a b : Int)) 103 (0, 0)) ∧ NumsAt .u8 w' 5 gs (stepsOf a b)) ∧ w.grownBy w' (some g) := by
  have Hg := Aside0.mk hg
  have Ha := Aside0.mk ha
  have Hb := Aside0.mk hb
  have h2 : w.cell? ⟨g, 2, none⟩ = some (.int .u32 0) := cell_blk hg rfl
  have h3 : w.cell? ⟨g, 3, none⟩ = some (.int .i32 0) := cell_blk hg rfl
  have z3 : w.frozen? ⟨g, 3, none⟩ = false := blk_frozen hg _
  have HL : (w.setCell ⟨g, 3, none⟩ (.int .i32 1)).cell? ⟨g, 2, none⟩ = some (.int .u32 0) := (World.cell?_setCell_other _ ⟨g, 3, none⟩ ⟨g, 2, none⟩ _ (by simp)).trans h2
  have hnot : ∀ (x : Bool) (w : World), (Op.unary .not (.bool x)).run Try.prog w = .ok (.bool (!x)) w := fun _ _ => rfl
  clear hg ha hb
  go_enter_defers Try.func81, Try.ntmps81
  go_wp2_with (go_at_call 88; refine (lock_free ⟨g, 3, none⟩ _ (by go_simp) (by go_simp)).mono ?_; rintro e w' ⟨rfl, rfl⟩)
  refine (bool_load ⟨g, 2, none⟩ 0 _ HL).mono ?_
  rintro e w1 ⟨rfl, rfl⟩
  have hq : ((0 : Int) != 0) = false := rfl
  rw [hq]
  go_wp2_with fail
  refine (reckon_calls g 0 Aa Ab ca cb (.int .u32 0) (.int .i32 1) (.int .u32 0) a b _ (by rw [heap_set_same Hg.out]; rfl) (Kd.F_step Ha.out (fun k hk _ => heap_set_other hk _)) (Kd.F_step Hb.out (fun k hk _ => heap_set_other hk _)) hla hlb).mono ?_
  rintro e w1 ⟨rfl, ⟨gs, q1, q2, q3⟩, q4⟩
  have Q2 := Aside0.mk q2
  have Q3 := Aside0.mk q3
  have Q4 := Aside0.mk q4
  clear q2 q3 q4
  go_wp2_with fail
  go_wp2
  have f2 : w1.cell? ⟨g, 2, none⟩ = some (.int .u32 0) := cell_blk Q2.out rfl
  have fz2 : w1.frozen? ⟨g, 2, none⟩ = false := blk_frozen Q2.out _
  refine leaves_cons (f := 90) (args := #[.pointer (some ⟨g, 2, none⟩), .bool true]) (by simp) (by simp [go_sem]) ?_
  refine (store_deferred ⟨g, 2, none⟩ (.int .u32 0) .returning _ f2 fz2).mono ?_
  rintro e u' w'' ⟨rfl, rfl, rfl⟩
  refine leaves_cons (f := 89) (args := #[.pointer (some ⟨g, 3, none⟩)]) (by simp [settle]) (by simp [go_sem]) ?_
  have Q5 : (w1.drew.setCell ⟨g, 2, none⟩ (.int .u32 1)).heap[g]? = some (.cells (pairCells (.slice Aa a.length ca) (.slice Ab b.length cb) (.slice (some ⟨gs, 0, none⟩) (a.length * b.length) (a.length * b.length)) 1 (lcsL a b : Int) |>.set! 3 (.int .i32 1)) 103 (0, 0)) := by
    rw [heap_set_same (show w1.drew.heap[g]? = _ from Q2.out)]
    rfl
  refine (unlock_deferred ⟨g, 3, none⟩ _ _ (cell_blk Q5 rfl) (blk_frozen Q5 _)).mono ?_
  rintro e u' w'' ⟨rfl, rfl, rfl⟩
  refine ⟨.tuple #[], by simp [settle, results, Try.results81], rfl, ⟨gs, ?_, ?_, ?_⟩, ?_⟩
  · simpa using q1
  · rw [heap_set_same Q5]
    rfl
  · refine nums_other (nums_other ?_ ?_ _) ?_ _
    · exact Q3.out
    · have := blk_lt Hg.out; simp at q1; omega
    · have := blk_lt Hg.out; simp at q1; omega
  · exact grown_then (grown_set (World.grownBy.refl _ _) _ _) (grown_then Q4.out (grown_set (grown_set (grown_drewN (World.grownBy.refl _ _) 1) _ _) _ _))
end Go.Proofs.Ytnlekganlliikaa.X
-- part XLcs6
namespace Go.Proofs.Ytnlekganlliikaa.X
open Go.RowKit Go.Proofs.YtnlekganlliikaaW.PrintWords Go.Proofs.YtnlekganlliikaaW.PrintLast Go.Proofs.YtnlekganlliikaaW.PrintMore
set_option linter.unusedVariables false
set_option linter.unusedSimpArgs false
/-- The steps, and how many, of a pair that is reckoned, or not. -/
def PairState (W : World) (g : Nat) (a b : List Int) (d : Int) (st : Value) (long : Int) : Prop :=
  (d = 0 ∧ st = .slice none 0 0 ∧ long = 0) ∨ (d = 1 ∧ long = lcsL a b ∧ ∃ As cs, st = .slice As (a.length * b.length) cs ∧ Kd.F (Kd.int .u8) W (fun k => k ≠ g) As (a.length * b.length) (stepsOf a b))
/-- g is the block of a pair of the lists a and b. -/
def PairIn (W : World) (g : Nat) (a b : List Int) (d : Int) : Prop :=
  ∃ Aa ca Ab cb st long, W.heap[g]? = some (.cells (pairCells (.slice Aa a.length ca) (.slice Ab b.length cb) st d long) 103 (0, 0)) ∧
    Kd.F (Kd.int .i64) W (fun k => k ≠ g) Aa a.length a ∧ Kd.F (Kd.int .i64) W (fun k => k ≠ g) Ab b.length b ∧ a.length ≤ 2000 ∧ b.length ≤ 2000 ∧ PairState W g a b d st long

theorem R_int_at {k : IntKind} {W : World} {g base : Nat} {e : TypeId} {xs : List Int} {ok : Nat → Prop} (h : W.heap[g]? = some (.cells (xs.map (Value.int k)).toArray e (0, 0))) (hb : base ≤ g) (hl : xs.length ≤ maxLen) (ho : ok g) :
    Kd.R (Kd.int k) e W base ok (.slice (some ⟨g, 0, none⟩) xs.length xs.length) xs :=
  ⟨fun j hj => by have : g = j := by simpa [Value.ownBlock] using hj
                  exact this ▸ ho, (R_int_of_cells h hb hl).2⟩

theorem stepsOf_length (a b : List Int) : (stepsOf a b).length = a.length * b.length := by simp [stepsOf]

theorem PairIn.step {W W1 : World} {g : Nat} {a b : List Int} {d : Int} (h : PairIn W g a b d) (hm : ∀ k, k < W.heap.size → W1.heap[k]? = W.heap[k]?) : PairIn W1 g a b d := by
  obtain ⟨Aa, ca, Ab, cb, st, long, h1, h2, h3, h4, h5, h6⟩ := h
  refine ⟨Aa, ca, Ab, cb, st, long, (hm g (blk_lt h1)).trans h1, Kd.F_step h2 (fun k _ hk => hm k hk), Kd.F_step h3 (fun k _ hk => hm k hk), h4, h5, ?_⟩
  rcases h6 with h6 | ⟨e1, e2, As, cs, e3, e4⟩
  · exact .inl h6
  · exact .inr ⟨e1, e2, As, cs, e3, Kd.F_step e4 (fun k _ hk => hm k hk)⟩
theorem PairIn.below {W W1 : World} {g : Nat} {a b : List Int} {d : Int} (h : PairIn W g a b d) (hb : Below W.heap.size W W1) : PairIn W1 g a b d := h.step hb.block
theorem PairIn.of_new {W : World} {base g : Nat} {a b : List Int} (h : IsPair W base g a b) : ∃ d, PairIn W g a b d := by
  obtain ⟨hg, sa, sb, st, d, long, h1, h2, h3, h4, h5, h6⟩ := h
  obtain ⟨Aa, ca, rfl⟩ := Kd.R_slice h2
  obtain ⟨Ab, cb, rfl⟩ := Kd.R_slice h3
  refine ⟨d, Aa, ca, Ab, cb, st, long, h1, Kd.R_F h2, Kd.R_F h3, h4, h5, ?_⟩
  rcases h6 with h6 | ⟨e1, e2, e3⟩
  · exact .inl h6
  · obtain ⟨As, cs, e⟩ := Kd.R_slice e2
    subst e
    rw [stepsOf_length] at e2 ⊢
    exact .inr ⟨e1, e3, As, cs, rfl, Kd.R_F e2⟩

theorem below_grown {N : Nat} {w W W2 : World} {g : Nat} (h : Below N w W) (k : W.grownBy W2 (some g)) (hg : N ≤ g) (hN : N ≤ W.heap.size) : Below N w W2 :=
  h.grown k hN (fun j hj => by have : g = j := by simpa using hj
                               omega)

set_option maxRecDepth 100000 in
set_option maxHeartbeats 1600000 in
/-- sync.Once: reckoned afterwards. -/
theorem once_Do (g : Nat) (a b : List Int) (d : Int) (w : World) (h : PairIn w g a b d) :
    Calls Try.prog 58 #[.pointer (some ⟨g, 2, none⟩), .func (.func 59) #[.pointer (some ⟨g, 0, none⟩)] #[]] w fun e w' => e = .returned (.tuple #[]) ∧ PairIn w' g a b 1 ∧ w.grownBy w' (some g) := by
  have H := Aside0.mk h
  obtain ⟨Aa, ca, Ab, cb, st, long, h1, h2, h3, h4, h5, h6⟩ := h
  have hnot : ∀ (x : Bool) (w : World), (Op.unary .not (.bool x)).run Try.prog w = .ok (.bool (!x)) w := fun _ _ => rfl
  have hc : w.cell? ⟨g, 2, none⟩ = some (.int .u32 d) := cell_blk h1 rfl
  have H1 := Aside0.mk h1
  have H2 := Aside0.mk h2
  have H3 := Aside0.mk h3
  have H6 := Aside0.mk h6
  clear h1 h2 h3 h6
  go_enter Try.func58, Try.ntmps58
  go_wp2_with fail
  refine (bool_load ⟨g, 2, none⟩ d _ hc).mono ?_
  rintro e w1 ⟨rfl, he⟩
  obtain rfl := he.symm
  clear he
  rcases H6.out with ⟨e1, e2, e3⟩ | ⟨e1, e2, As, cs, e3, e4⟩
  · subst e1; subst e2; subst e3
    have hq : ((0 : Int) != 0) = false := rfl
    rw [hq]
    go_wp2_with fail
    refine (once_slow g Aa Ab ca cb a b _ H1.out H2.out H3.out h4 h5).mono ?_
    rintro e w1 ⟨rfl, ⟨gs, q1, q2, q3⟩, q4⟩
    have Q2 := Aside0.mk q2
    have Q3 := Aside0.mk q3
    have Q4 := Aside0.mk q4
    clear q2 q3 q4
    go_wp2_with fail
    go_end0
    have hlt := blk_lt H1.out
    have hne : ∀ k, k ≠ g → k < w.heap.size → w1.heap[k]? = w.heap[k]? := fun k hk hs => Q4.out.block k hs (fun e => hk (Option.some.inj e))
    refine ⟨rfl, ⟨Aa, ca, Ab, cb, _, _, Q2.out, Kd.F_step H2.out hne, Kd.F_step H3.out hne, h4, h5, .inr ⟨rfl, rfl, some ⟨gs, 0, none⟩, a.length * b.length, rfl, ?_⟩⟩, Q4.out⟩
    have hr := R_int_at (base := 0) (ok := fun k => k ≠ g) Q3.out (Nat.zero_le _) (by rw [stepsOf_length]; have := Nat.mul_le_mul h4 h5; simp only [maxLen]; omega) (by omega)
    rw [stepsOf_length] at hr
    exact Kd.R_F hr
  · subst e1
    have hq : ((1 : Int) != 0) = true := rfl
    rw [hq]
    go_wp2_with fail
    go_end0
    exact ⟨rfl, H.out, World.grownBy.refl _ _⟩

set_option maxRecDepth 100000 in
set_option maxHeartbeats 1600000 in
/-- How many are paired. -/
theorem pair_Len (g : Nat) (a b : List Int) (d : Int) (w : World) (h : PairIn w g a b d) :
    Calls Try.prog 33 #[.pointer (some ⟨g, 0, none⟩)] w fun e w' => e = .returned (.int .i64 (lcsL a b : Int)) ∧ PairIn w' g a b 1 ∧ w.grownBy w' (some g) := by
  have hmf : ∀ (fn : Fn) (first cap : Array Value) (w : World), (Instr.makeFunc fn first cap).run Try.prog w = .ok (.func fn first cap) w := fun _ _ _ _ => rfl
  have H := Aside0.mk h
  clear h
  go_enter Try.func33, Try.ntmps33
  go_wp2_with fail
  refine (once_Do g a b d _ H.out).mono ?_
  rintro e w1 ⟨rfl, q1, q2⟩
  have Q1 := Aside0.mk q1
  have Q2 := Aside0.mk q2
  clear q1 q2
  have c4 : w1.cell? ⟨g, 6, none⟩ = some (.int .i64 (lcsL a b : Int)) := by
    obtain ⟨Aa, ca, Ab, cb, st, long, h1, h2, h3, h4, h5, h6⟩ := Q1.out
    rcases h6 with ⟨e1, _⟩ | ⟨_, e2, _⟩
    · cases e1
    · subst e2
      exact cell_blk h1 rfl
  go_wp2_with fail
  go_ret
  exact ⟨rfl, Q1.out, Q2.out⟩

end Go.Proofs.Ytnlekganlliikaa.X
-- part XLcs7
namespace Go.Proofs.Ytnlekganlliikaa.X
open Go.RowKit Go.Proofs.YtnlekganlliikaaW.PrintWords Go.Proofs.YtnlekganlliikaaW.PrintLast Go.Proofs.YtnlekganlliikaaW.PrintMore
set_option linter.unusedVariables false
set_option linter.unusedSimpArgs false
/-- What is written so far, the rest being -1. -/
def MatchAt (a b : List Int) (i j : Nat) (L : List Int) : Prop := ∃ P : List Int, P.length = i ∧ L = P ++ List.replicate (a.length - i) (-1) ∧ P ++ matchFrom (a.drop i) (b.drop j) j = matchOf a b
section
variable {a b L : List Int} {i j : Nat}
theorem MatchAt.start : MatchAt a b 0 0 (List.replicate a.length (-1)) := ⟨[], rfl, by simp, by simp [matchOf]⟩
theorem MatchAt.done (h : MatchAt a b i j L) (hi : i ≤ a.length) (hd : ¬ (i < a.length ∧ j < b.length)) : L = matchOf a b := by
  obtain ⟨P, h1, h2, h3⟩ := h
  rw [← h3, h2]
  congr 1
  by_cases hx : i < a.length
  · have : b.drop j = [] := List.drop_eq_nil_of_le (by omega)
    rw [this, matchFrom_rest]
    simp
  · have : a.drop i = [] := List.drop_eq_nil_of_le (by omega)
    rw [this, matchFrom_nil]
    simp; omega
theorem MatchAt.len (h : MatchAt a b i j L) (hi : i ≤ a.length) : L.length = a.length := by
  obtain ⟨P, h1, h2, h3⟩ := h
  rw [h2]; simp; omega
theorem step_cases (hi : i < a.length) (hj : j < b.length) :
    (stepAt (a.drop i) (b.drop j) = 0 ∧ matchFrom (a.drop i) (b.drop j) j = (j : Int) :: matchFrom (a.drop (i + 1)) (b.drop (j + 1)) (j + 1)) ∨
    (stepAt (a.drop i) (b.drop j) = 1 ∧ matchFrom (a.drop i) (b.drop j) j = -1 :: matchFrom (a.drop (i + 1)) (b.drop j) j) ∨
    (stepAt (a.drop i) (b.drop j) = 2 ∧ matchFrom (a.drop i) (b.drop j) j = matchFrom (a.drop i) (b.drop (j + 1)) (j + 1)) := by
  have ha := drop_cons' (List.getElem?_eq_getElem hi)
  have hb := drop_cons' (List.getElem?_eq_getElem hj)
  rw [ha, hb, matchFrom_cons, stepAt]
  by_cases e : a[i] = b[j]
  · exact .inl ⟨by rw [if_pos e], by rw [if_pos e]⟩
  · by_cases e2 : lcsL (a[i] :: a.drop (i + 1)) (b.drop (j + 1)) ≤ lcsL (a.drop (i + 1)) (b[j] :: b.drop (j + 1))
    · exact .inr (.inl ⟨by rw [if_neg e, if_pos e2], by rw [if_neg e, if_pos e2, ← hb]⟩)
    · exact .inr (.inr ⟨by rw [if_neg e, if_neg e2], by rw [if_neg e, if_neg e2, ← ha]⟩)
theorem MatchAt.same (h : MatchAt a b i j L) (hi : i < a.length) (e : matchFrom (a.drop i) (b.drop j) j = (j : Int) :: matchFrom (a.drop (i + 1)) (b.drop (j + 1)) (j + 1)) : MatchAt a b (i + 1) (j + 1) (L.set i j) := by
  obtain ⟨P, h1, h2, h3⟩ := h
  refine ⟨P ++ [(j : Int)], by simp [h1], ?_, by rw [← h3, e]; simp⟩
  subst h1
  rw [h2, List.set_append_right _ _ (Nat.le_refl _), Nat.sub_self]
  obtain ⟨r, hr⟩ : ∃ r, a.length - P.length = r + 1 := ⟨a.length - P.length - 1, by omega⟩
  rw [hr, show a.length - (P.length + 1) = r by omega]
  simp [List.replicate_succ]
theorem MatchAt.old (h : MatchAt a b i j L) (hi : i < a.length) (e : matchFrom (a.drop i) (b.drop j) j = -1 :: matchFrom (a.drop (i + 1)) (b.drop j) j) : MatchAt a b (i + 1) j L := by
  obtain ⟨P, h1, h2, h3⟩ := h
  refine ⟨P ++ [(-1 : Int)], by simp [h1], ?_, by rw [← h3, e]; simp⟩
  subst h1
  rw [h2]
  obtain ⟨r, hr⟩ : ∃ r, a.length - P.length = r + 1 := ⟨a.length - P.length - 1, by omega⟩
  rw [hr, show a.length - (P.length + 1) = r by omega]
  simp [List.replicate_succ]
theorem MatchAt.fresh (h : MatchAt a b i j L) (e : matchFrom (a.drop i) (b.drop j) j = matchFrom (a.drop i) (b.drop (j + 1)) (j + 1)) : MatchAt a b i (j + 1) L := by
  obtain ⟨P, h1, h2, h3⟩ := h
  exact ⟨P, h1, h2, by rw [← h3, e]⟩
theorem steps_get (hi : i < a.length) (hj : j < b.length) : (stepsOf a b)[i * b.length + j]? = some (stepAt (a.drop i) (b.drop j)) := by
  simp [stepsOf, place_lt hi hj, place_div hj]
end
theorem addr_add0 (g i : Nat) : (⟨g, 0, none⟩ : Addr).add i = ⟨g, i, none⟩ := by
  unfold Addr.add
  split <;> simp_all

theorem R_blk {k : IntKind} {W : World} {base e n c : Nat} {ok : Nat → Prop} {A : Option Addr} {L : List Int} (h : Kd.R (Kd.int k) e W base ok (.slice A n c) L) (hn : 0 < n) : ∃ gm cur, A = some ⟨gm, 0, none⟩ ∧ base ≤ gm ∧ W.heap[gm]? = some (.cells cur e (0, 0)) := by
  obtain ⟨_, inner, ho, _⟩ := h
  rcases ho.2 with ⟨hv, _⟩ | ⟨g, cap, cur, hv, hg, hh, _⟩
  · cases hv; omega
  · cases hv
    exact ⟨g, cur, rfl, hg, hh⟩

set_option maxRecDepth 100000 in
set_option maxHeartbeats 4000000 in
/-- Which is paired with which. -/
theorem pair_Match (g : Nat) (a b : List Int) (d : Int) (w : World) (h : PairIn w g a b d) :
    Calls Try.prog 65 #[.pointer (some ⟨g, 0, none⟩)] w fun e w' => ∃ v0_ : Value, e = .returned v0_ ∧ Kd.R (Kd.int .i64) 3 w' w.heap.size (fun _ => True) v0_ (matchOf a b) ∧ PairIn w' g a b 1 ∧ w.grownBy w' (some g) := by
  have H := Aside0.mk h
  clear h
  go_enter Try.func65, Try.ntmps65
  go_wp2_with fail
  refine (pair_Len g a b d _ H.out).mono ?_
  rintro e w1 ⟨rfl, q1, q2⟩
  have Q1 := Aside0.mk q1
  have Q2 := Aside0.mk q2
  clear q1 q2
  obtain ⟨Aa, ca, Ab, cb, st, long, h1, h2, h3, h4, h5, h6⟩ := Q1.out
  obtain ⟨e1, _⟩ | ⟨_, e2, As, cs, e3, h6⟩ := h6
  · cases e1
  subst e2; subst e3
  have H1 := Aside0.mk h1
  have H6 := Aside0.mk h6
  clear h1 h2 h3 h6
  have cA : (w1.alloc (.cells #[.int .i64 (-1)] 3)).cell? ⟨g, 0, none⟩ = some (.slice Aa a.length ca) := cell_alloc_of (cell_blk H1.out rfl) _
  obtain ⟨q, hq⟩ : ∃ q, ((lcsL a b : Int) == 0) = q := ⟨_, rfl⟩
  cases q
  all_goals
    go_wp2_with fail
    refine (slices_Repeat_one ⟨w1.heap.size, 0, none⟩ 1 (-1) a.length _ (by simp) h4).mono ?_
    rintro e w2 ⟨vm, rfl, ho, hb⟩
    obtain ⟨Am, cm, rfl⟩ := Kd.R_slice ho
    have HB : Aside0 (Below w1.heap.size w1 w2) := Aside0.mk ((below_alloc (Below.refl _ _) _).trans (hb.mono (by simp)))
    have HO : Aside0 (Kd.R (Kd.int .i64) 3 w2 w1.heap.size (fun _ => True) (.slice Am (List.replicate a.length (-1 : Int)).length cm) (List.replicate a.length (-1 : Int))) := Aside0.mk (Kd.R_lower ho (by simp))
    clear ho hb cA
    rw [List.length_replicate]
    go_wp2_with fail
    go_loopw [4, 5] (fun s1 s2 W => ∃ (i j : Nat) (L : List Int), s1 = .int .i64 i ∧ s2 = .int .i64 j ∧ i ≤ a.length ∧ j ≤ b.length ∧ Aside0 (MatchAt a b i j L) ∧ Aside0 (Kd.R (Kd.int .i64) 3 W w1.heap.size (fun _ => True) (.slice Am a.length cm) L) ∧ Aside0 (Below w1.heap.size w1 W)) (fun s1 s2 _ => a.length + b.length - (intOf s1).toNat - (intOf s2).toNat)
    case atStart => exact ⟨0, 0, _, rfl, rfl, Nat.zero_le _, Nat.zero_le _, ⟨MatchAt.start⟩, by rw [List.length_replicate] at HO; exact HO, HB⟩
    case round =>
      obtain ⟨i, j, L, rfl, rfl, hi, hj, HM, HL, HW⟩ := hrel
      clear HO HB
      have P1 := Aside0.mk ((HW.out.block g (blk_lt H1.out)).trans H1.out)
      have cA : wr.cell? ⟨g, 0, none⟩ = some (.slice Aa a.length ca) := cell_blk P1.out rfl
      have cB : wr.cell? ⟨g, 1, none⟩ = some (.slice Ab b.length cb) := cell_blk P1.out rfl
      have cS : wr.cell? ⟨g, 5, none⟩ = some (.slice As (a.length * b.length) cs) := cell_blk P1.out rfl
      by_cases hlt : i < a.length ∧ j < b.length
      · obtain ⟨hi', hj'⟩ := hlt
        have b1 : decide ((i : Int) < (a.length : Int)) = true := decide_eq_true (by omega)
        have b2 : decide (i < a.length) = true := decide_eq_true (by omega)
        have b3 : decide ((j : Int) < (b.length : Int)) = true := decide_eq_true (by omega)
        have b4 : decide (j < b.length) = true := decide_eq_true (by omega)
        have hst := step_cases hi' hj'
        have hsg := steps_get hi' hj'
        obtain ⟨sv, hsv⟩ : ∃ sv, stepAt (a.drop i) (b.drop j) = sv := ⟨_, rfl⟩
        rw [hsv] at hst hsg
        have HST := Aside0.mk hst
        clear hst hsv
        have hij := place_lt hi' hj'
        obtain ⟨ads, rfl, k1⟩ : ∃ ad, As = some ad ∧ wr.cell? (ad.add (i * b.length + j)) = some (.int .u8 sv) := by
          obtain ⟨ad, e, hc⟩ := Kd.at_int (Kd.F_now (Kd.F_below H6.out HW.out)) ((i * b.length + j : Nat) : Int) (by omega) (by omega)
          refine ⟨ad, e, ?_⟩
          rw [Int.toNat_natCast] at hc
          rw [hc, rd, List.getD_eq_getElem?_getD, Int.toNat_natCast, hsg]
          rfl
        have p1 : (i : Int) * (b.length : Int) + (j : Int) < (a.length : Int) * (b.length : Int) := by
          rw [← Int.natCast_mul, ← Int.natCast_mul]; omega
        have p0 : 0 ≤ (i : Int) * (b.length : Int) := by rw [← Int.natCast_mul]; omega
        have p2 : ((i : Int) * (b.length : Int) + (j : Int)).toNat = i * b.length + j := by rw [← Int.natCast_mul]; omega
        have pm := Nat.mul_le_mul h4 h5
        have w1_ : IntKind.i64.wrap ((i : Int) * (b.length : Int)) = (i : Int) * (b.length : Int) := IntWalk.i64_in _ (by rw [← Int.natCast_mul] at p1 ⊢; rw [← Int.natCast_mul] at p1; omega)
        have w2_ : IntKind.i64.wrap ((i : Int) * (b.length : Int) + (j : Int)) = (i : Int) * (b.length : Int) + (j : Int) := IntWalk.i64_in _ (by rw [← Int.natCast_mul] at p1 ⊢; rw [← Int.natCast_mul] at p1; omega)
        clear hsg hij pm
        go_wp2
        go_quiet (fail)
        obtain ⟨wd, hwd⟩ : ∃ wd, wd = wr.drewN nq := ⟨_, rfl⟩
        rw [← hwd]
        have HLd := Aside0.mk (Kd.R_drewN HL.out nq)
        have HWd : Aside0 (Below w1.heap.size w1 (wr.drewN nq)) := Aside0.mk ((HW.out).trans (pw_below_drewN (Below.refl _ _) nq))
        rw [← hwd] at HLd HWd
        clear hwd HL HW P1 cA cB cS k1 b1 b2 b3 b4 p0 p1 p2 w1_ w2_
        rcases HST.out with ⟨e1, e2⟩ | ⟨e1, e2⟩ | ⟨e1, e2⟩
        · subst e1
          have E2 := Aside0.mk e2
          clear e2 HST
          obtain ⟨gm, cur, rfl, hgm, hbm⟩ := R_blk HLd.out (by omega)
          have cm_ : wd.cell? ⟨gm, i, none⟩ = some (.int .i64 (rd L i)) := by
            obtain ⟨_, _, hC⟩ := Kd.R_reads' HLd.out
            obtain ⟨ad, e, hc⟩ := Kd.at_int hC (i : Int) (by omega) (by rw [HM.out.len hi]; omega)
            cases e
            rw [Int.toNat_natCast] at hc
            rwa [addr_add0] at hc
          have zm_ : wd.frozen? ⟨gm, i, none⟩ = false := blk_frozen hbm _
          have bi : decide ((i : Int) < (a.length : Int)) = true := decide_eq_true (by omega)
          have bi2 : decide (i < a.length) = true := decide_eq_true (by omega)
          clear hbm
          go_wp2
          go_roundw
          case measure => simp [intOf]; omega
          case rel =>
            refine ⟨i + 1, j + 1, L.set i j, by simp, by simp, by omega, by omega, ⟨HM.out.same hi' E2.out⟩, ⟨?_⟩, ⟨HWd.out.setCell hgm _⟩⟩
            have h := Kd.R_putn HLd.out (i : Int) (j : Int)
            rwa [Int.toNat_natCast] at h
        · subst e1
          have E2 := Aside0.mk e2
          clear e2 HST
          go_wp2
          go_roundw
          case measure => simp [intOf]; omega
          case rel => exact ⟨i + 1, j, L, by simp, rfl, by omega, by omega, ⟨HM.out.old hi' E2.out⟩, HLd, HWd⟩
        · subst e1
          have E2 := Aside0.mk e2
          clear e2 HST
          go_wp2
          go_roundw
          case measure => simp [intOf]; omega
          case rel => exact ⟨i, j + 1, L, rfl, by simp, by omega, by omega, ⟨HM.out.fresh E2.out⟩, HLd, HWd⟩
      · have Hlt := Aside0.mk hlt
        by_cases hi' : i < a.length
        · have b1 : decide ((i : Int) < (a.length : Int)) = true := decide_eq_true (by omega)
          have b2 : decide (i < a.length) = true := decide_eq_true (by omega)
          have b3 : decide ((j : Int) < (b.length : Int)) = false := decide_eq_false (by omega)
          have b4 : decide (j < b.length) = false := decide_eq_false (by omega)
          clear hlt
          go_wp2
          go_ret
          have hL := HM.out.done hi Hlt.out
          subst hL
          have hs := Q2.out.size
          refine ⟨_, rfl, Kd.R_lower HL.out hs, Q1.out.below HW.out, grown_then Q2.out (grown_of_below HW.out _)⟩
        · have b1 : decide ((i : Int) < (a.length : Int)) = false := decide_eq_false (by omega)
          have b2 : decide (i < a.length) = false := decide_eq_false (by omega)
          clear hlt
          go_wp2
          go_ret
          have hL := HM.out.done hi Hlt.out
          subst hL
          have hs := Q2.out.size
          refine ⟨_, rfl, Kd.R_lower HL.out hs, Q1.out.below HW.out, grown_then Q2.out (grown_of_below HW.out _)⟩
end Go.Proofs.Ytnlekganlliikaa.X
-- part XGap3
namespace Go.Proofs.Ytnlekganlliikaa.X
open Go.RowKit Go.Proofs.YtnlekganlliikaaW.PrintWords Go.Proofs.YtnlekganlliikaaW.PrintLast Go.Proofs.YtnlekganlliikaaW.PrintMore
set_option linter.unusedVariables false
set_option linter.unusedSimpArgs false
theorem RowsIn.below {W W' : World} {B g : Nat} {rs : List RowG} {e : Int} (h : RowsIn W B g rs e) (hb : Below W.heap.size W W') : RowsIn W' B g rs e := by
  obtain ⟨v, h1, h2, h3⟩ := h
  exact ⟨v, keep_ h1 hb, h2, Kd.R_below h3 hb⟩
theorem lcs_New_pair (A0 : Option Addr) (c0 : Nat) (l0 : List Int) (A1 : Option Addr) (c1 : Nat) (l1 : List Int) (w : World) (hr0 : Kd.C (Kd.int .i64) w A0 l0.length l0) (hc0 : l0.length ≤ c0) (hr1 : Kd.C (Kd.int .i64) w A1 l1.length l1) (hc1 : l1.length ≤ c1) (h0 : l0.length ≤ 2000) (h1 : l1.length ≤ 2000) :
    Calls Try.prog 31 #[.slice A0 l0.length c0, .slice A1 l1.length c1] w fun e w' => ∃ (g : Nat) (d : Int), e = .returned (.tuple #[.pointer (some ⟨g, 0, none⟩), .int .i64 0]) ∧ Aside0 (w.heap.size ≤ g) ∧ Aside0 (PairIn w' g l0 l1 d) ∧ Aside0 (Below w.heap.size w w') := by
  refine (lcs_New_ok A0 c0 l0 A1 c1 l1 w hr0 hc0 hr1 hc1 h0 h1).mono ?_
  rintro e w' ⟨g, rfl, hp, hb⟩
  obtain ⟨d, hd⟩ := PairIn.of_new hp
  exact ⟨g, d, rfl, ⟨hp.1⟩, ⟨hd⟩, ⟨hb⟩⟩

theorem size_row' {x : RowG} (h : x.1.length = 16) : (Try.prog.info? 63).map (·.size) = some (rowCells x).length := size_row h
def comeS (col : Nat) (list : List ByteArray) (rs : List RowG) (e : Int) : List RowG × Int := if rs.length ≤ 2000 ∧ list.length ≤ 2000 then (comeF col list rs, e) else (rs, 4)
section
variable {w0 W W' W2 W4 W5 : World} {B Ba Bl Bc Bo cl col at_ : Nat} {Al : Option Addr} {list : List ByteArray} {rs : List RowG} {v v4 : Value} {x : RowG}
theorem ComeI.below_ (h : ComeI w0 W B Ba Bl Bc Bo Al cl list col at_ rs v) (hb : Below W.heap.size W W') (hB : B ≤ W.heap.size) : ComeI w0 W' B Ba Bl Bc Bo Al cl list col at_ rs v := by
  obtain ⟨h1, h2, h3, ⟨h4, h5⟩, h6, h7, h8, h9⟩ := h
  exact ⟨keep_ h1 hb, keep_ h2 hb, keep_ h3 hb, ⟨keep_ h4 hb, Kd.R_below h5 hb⟩, h6.trans (hb.mono hB), h7, h8, h9⟩
theorem ComeI.set_blk (h : ComeI w0 W B Ba Bl Bc Bo Al cl list col at_ rs v) {bx j : Nat} {u : Value} (hw : Aside0 (W' = W.setCell ⟨bx, j, none⟩ u)) (ha : Ba ≠ bx) (hl : Bl ≠ bx) (hc : Bc ≠ bx) (ho : Bo ≠ bx) (hv : some bx ≠ v.ownBlock) (hB : B ≤ bx) : ComeI w0 W' B Ba Bl Bc Bo Al cl list col at_ rs v := by
  obtain ⟨h1, h2, h3, ⟨h4, h5⟩, h6, h7, h8, h9⟩ := h
  obtain rfl := hw.out
  exact ⟨set_keep h1 ha u, set_keep h2 hl u, set_keep h3 hc u, ⟨set_keep h4 ho u, Kd.R_mono (Kd.R_far (p := ⟨bx, j, none⟩) (Kd.R_tight rfl h5) (fun k hk e => hv (by rw [← hk]; exact congrArg some e.symm)) u) (fun _ _ => trivial)⟩, h6.setCell (p := ⟨bx, j, none⟩) hB _, h7, h8, h9⟩
theorem ComeI.set_at (h : ComeI w0 W B Ba Bl Bc Bo Al cl list col at_ rs v) {n : Nat} (hw : Aside0 (W' = W.setCell ⟨Ba, 0, none⟩ (.int .i64 (n : Int)))) : ComeI w0 W' B Ba Bl Bc Bo Al cl list col n rs v := by
  obtain ⟨h1, h2, h3, ⟨h4, h5⟩, h6, h7, h8, h9⟩ := h
  obtain rfl := hw.out
  exact ⟨by rw [heap_set_same h1]; rfl, set_keep h2 (blk_ne h2 h1 (by decide)) _, set_keep h3 h9.symm _, ⟨set_keep h4 (blk_ne h4 h1 (by decide)) _, Kd.R_set h5 h1 (by decide) _ _⟩, h6.setCell (p := ⟨Ba, 0, none⟩) h7 _, h7, h8, h9⟩
theorem ComeI.set_at1 (h : ComeI w0 W B Ba Bl Bc Bo Al cl list col at_ rs v) {n : Nat} (hw : Aside0 (W' = W.setCell ⟨Ba, 0, none⟩ (.int .i64 ((n : Int) + 1)))) : ComeI w0 W' B Ba Bl Bc Bo Al cl list col (n + 1) rs v := by
  have e : ((n + 1 : Nat) : Int) = (n : Int) + 1 := by omega
  exact h.set_at (n := n + 1) ⟨by rw [e]; exact hw.out⟩
theorem ComeI.put (h : ComeI w0 W B Ba Bl Bc Bo Al cl list col at_ rs v) (hg : W.grownBy W4 v.ownBlock) (hr : Kd.R kRow 63 W4 B (fun _ => True) v4 (rs ++ [x])) (hb : Below B w0 W4) (hw : Aside0 (W5 = W4.setCell ⟨Bo, 0, none⟩ v4)) :
    ComeI w0 W5 B Ba Bl Bc Bo Al cl list col at_ (rs ++ [x]) v4 := by
  obtain ⟨h1, h2, h3, ⟨h4, h5⟩, h6, h7, h8, h9⟩ := h
  obtain rfl := hw.out
  have k1 := (hg.block _ (blk_lt h1) (Kd.R_ne h5 h1 (by decide))).trans h1
  have k2 := (hg.block _ (blk_lt h2) (Kd.R_ne h5 h2 (by decide))).trans h2
  have k3 := (hg.block _ (blk_lt h3) (Kd.R_ne h5 h3 (by decide))).trans h3
  have k4 := (hg.block _ (blk_lt h4) (Kd.R_ne h5 h4 (by decide))).trans h4
  exact ⟨set_keep k1 (blk_ne h1 h4 (by decide)) _, set_keep k2 (blk_ne h2 h4 (by decide)) _, set_keep k3 (blk_ne h3 h4 (by decide)) _, ⟨by rw [heap_set_same k4]; rfl, Kd.R_set hr k4 (by decide) _ _⟩, hb.setCell (p := ⟨Bo, 0, none⟩) h8 _, h7, h8, h9⟩
theorem KeepsF.put (hg : W.grownBy W4 v.ownBlock) (hat : v4.ownBlock = v.ownBlock ∨ ∃ b, v4.ownBlock = some b ∧ W.heap.size ≤ b) {u : Value} (hw : Aside0 (W5 = W4.setCell ⟨Bo, 0, none⟩ u)) : KeepsF Ba Bo W W5 v v4 := by
  obtain rfl := hw.out
  exact ⟨by simpa [World.setCell] using hg.size, fun k hk _ h2 h3 => (heap_set_other h2 _).trans (hg.block k hk h3), hat⟩
theorem KeepsF.far (h : KeepsF Ba Bo W W' v v4) {bx j : Nat} {u : Value} (hw : Aside0 (W2 = W'.setCell ⟨bx, j, none⟩ u)) (hx : W.heap.size ≤ bx) : KeepsF Ba Bo W W2 v v4 := by
  obtain rfl := hw.out
  exact ⟨by simpa [World.setCell] using h.1, fun k hk h1 h2 h3 => (heap_set_other (by omega) _).trans (h.2.1 k hk h1 h2 h3), h.2.2⟩
theorem vf_ne {Wr : World} (hk : KeepsF Ba Bo W W' v v4) (hl : Below Wr.heap.size Wr W) (hv : ∀ k, v.ownBlock = some k → k < Wr.heap.size) (hx : Wr.heap.size < W.heap.size) : some Wr.heap.size ≠ v4.ownBlock := by
  intro e
  rcases hk.2.2 with h | ⟨b, h, h2⟩
  · have := hv _ (h.symm.trans e.symm); omega
  · rw [h] at e; injection e with e; omega
theorem set_at_keep {b g : Nat} {u : Value} {o : Obj} (hw : Aside0 (W' = W.setCell ⟨g, 0, none⟩ u)) (h : W.heap[b]? = some o) (hne : b ≠ g) : W'.heap[b]? = some o := by
  obtain rfl := hw.out
  exact set_keep h hne _
theorem KeepsF.set_blk {bx j : Nat} {u : Value} (hw : Aside0 (W' = W.setCell ⟨bx, j, none⟩ u)) (hx : bx = Ba ∨ bx = Bo) : KeepsF Ba Bo W W' v v := by
  obtain rfl := hw.out
  exact ⟨by simp [World.setCell], fun k hk h1 h2 _ => heap_set_other (by rintro rfl; rcases hx with h | h; exact h1 h; exact h2 h) _, .inl rfl⟩
end
theorem all_two (A0 A1 : Option Addr) (c0 c1 n0 g : Nat) (l0 l1 : List ByteArray) (r : List (List Int)) (w : World) (hg : g = w.heap.size) (hn : n0 = l0.length) (hr0 : Kd.C Kd.string w A0 l0.length l0) (hc0 : l0.length ≤ c0) (hr1 : Kd.C Kd.string w A1 l1.length l1) (hc1 : l1.length ≤ c1) (h : intern_All.f [l0, l1] = some r) :
    Calls Try.prog 30 #[.slice (some ⟨g, 0, none⟩) 2 2] (w.alloc (.cells #[.slice A0 n0 c0, .slice A1 l1.length c1] 34)) fun e w' => ∃ v, e = .returned v ∧ Aside0 (Kd.S KI 49 w' w.heap.size (fun _ => True) v r) ∧ Aside0 (Below w.heap.size w w') := by
  subst hg hn
  have hbl := Below.alloc (Below.refl w.heap.size w) (Nat.le_refl _) (.cells #[.slice A0 l0.length c0, .slice A1 l1.length c1] 34)
  have hblk := blk_new w (.cells #[.slice A0 l0.length c0, .slice A1 l1.length c1] 34)
  have h0 : (Kd.slice 9 Kd.string).K (w.alloc (.cells #[.slice A0 l0.length c0, .slice A1 l1.length c1] 34)) l0 [.slice A0 l0.length c0] := ⟨A0, c0, rfl, hc0, Kd.C_below hr0 hbl⟩
  have h1 : (Kd.slice 9 Kd.string).K (w.alloc (.cells #[.slice A0 l0.length c0, .slice A1 l1.length c1] 34)) l1 [.slice A1 l1.length c1] := ⟨A1, c1, rfl, hc1, Kd.C_below hr1 hbl⟩
  have hC := C_blk (d := Kd.slice 9 Kd.string) (xs := [l0, l1]) (inner := [.slice A0 l0.length c0, .slice A1 l1.length c1]) hblk (Reps.one h0 (Reps.one h1 (Reps.none _ _))) (by simp)
  refine (intern_All.calls _ 2 [l0, l1] r _ hC (by simp) h).mono ?_
  rintro e w' ⟨v, rfl, hs, hb⟩
  exact ⟨v, rfl, ⟨Kd.S_lower hs (by simp)⟩, ⟨hbl.trans (hb.mono (by simp))⟩⟩
theorem S_two {W : World} {B : Nat} {v : Value} {a b : List Int} (h : Kd.S KI 49 W B (fun _ => True) v [a, b]) :
    ∃ gi ci A0 c0 A1 c1, v = .slice (some ⟨gi, 0, none⟩) 2 ci ∧ W.cell? ⟨gi, 0, none⟩ = some (.slice A0 a.length c0) ∧ W.cell? ⟨gi, 1, none⟩ = some (.slice A1 b.length c1) ∧ Kd.C (Kd.int .i64) W A0 a.length a ∧ a.length ≤ c0 ∧ Kd.C (Kd.int .i64) W A1 b.length b ∧ b.length ≤ c1 := by
  obtain ⟨gi, ci, rfl, _⟩ := Kd.S_form h (by simp)
  have hC := (Kd.S_reads' h).2.2
  obtain ⟨ad, A0, c0, e0, h0, l0, k0⟩ := at_slice hC 0 (by simp)
  cases e0
  obtain ⟨ad, A1, c1, e1, h1, l1, k1⟩ := at_slice hC 1 (by simp)
  cases e1
  rw [add0_] at h0 h1
  exact ⟨gi, ci, A0, c0, A1, c1, rfl, h0, h1, k0, l0, k1, l1⟩

set_option maxRecDepth 100000 in
set_option maxHeartbeats 8000000 in
theorem rows_come (g B col : Nat) (rs : List RowG) (e : Int) (Al : Option Addr) (cl : Nat) (list : List ByteArray) (w : World) (h : RowsIn w B g rs e) (hC : Kd.C Kd.string w Al list.length list) (hcl : list.length ≤ cl) (hcol : col < 16)
    (hn : rs.length ≤ 100000) (hl : list.length ≤ 100000) (hz : ∀ x ∈ rs, x.2.size ≤ maxLen) (hz2 : ∀ s ∈ list, s.size ≤ maxLen) (hB : B ≤ w.heap.size) :
    Calls Try.prog 39 #[.pointer (some ⟨g, 0, none⟩), .int .i64 (col : Int), .slice Al list.length cl] w fun e' w' => e' = .returned (.tuple #[]) ∧
      Aside0 (RowsIn w' B g (comeS col list rs e).1 (comeS col list rs e).2) ∧ Aside0 (Below B w w') := by
  have H := Aside0.mk h
  have HC := Aside0.mk hC
  have HZ : Aside0 (∀ l ∈ [rs.map (·.2), list], ∀ s ∈ l, s.size ≤ maxLen) := ⟨by
    intro l hl s hs
    simp only [List.mem_cons, List.not_mem_nil, or_false] at hl
    rcases hl with rfl | rfl
    · obtain ⟨x, hx, rfl⟩ := List.mem_map.1 hs
      exact hz x hx
    · exact hz2 s hs⟩
  have hT : total [rs.map (·.2), list] = rs.length + list.length := by simp [total]
  have hids : intern_All.f [rs.map (·.2), list] = some (idsOf2 rs list) := by
    rw [intern_All.f, if_pos ⟨by simp, by omega, HZ.out⟩]; rfl
  have HIDS := Aside0.mk hids
  have hcl' := Aside0.mk hcl
  clear h hC hz hz2 hT hids hcl
  go_enter Try.func39, Try.ntmps39
  go_wp2_with fail
  obtain ⟨W1, hW1⟩ : ∃ W1, (w.alloc (.cells #[.int .i64 (col : Int)] 3)).alloc (.cells #[.slice Al list.length cl] 34) = W1 := ⟨_, rfl⟩
  have hb1 : Below w.heap.size w W1 := by rw [← hW1]; exact ((Below.refl _ w).alloc (Nat.le_refl _) _).alloc (by simp) _
  have hBl : W1.heap[w.heap.size + 1]? = some (.cells #[.slice Al list.length cl] 34 (0, 0)) := by
    rw [← hW1]; have := blk_new (w.alloc (.cells #[.int .i64 (col : Int)] 3)) (.cells #[.slice Al list.length cl] 34); simpa using this
  have hBc : W1.heap[w.heap.size]? = some (.cells #[.int .i64 (col : Int)] 3 (0, 0)) := by
    rw [← hW1, heap_alloc_old _ _ (by simp)]; exact blk_new _ _
  have hs1 : W1.heap.size = w.heap.size + 2 := by rw [← hW1]; simp
  rw [hW1]
  have HB1 := Aside0.mk hb1
  have HBL := Aside0.mk hBl
  have HBC := Aside0.mk hBc
  have HS1 := Aside0.mk hs1
  have cbl : W1.cell? ⟨w.heap.size + 1, 0, none⟩ = some (.slice Al list.length cl) := cell_blk hBl rfl
  clear hW1 hb1 hBl hBc hs1
  refine start_ (n := 6) (S := fun w' => w'.cell? ⟨w.heap.size + 1, 0, none⟩ = some (.slice Al list.length cl)) (ds := []) #[false, false, false, false, false, false] (by kernel_rfl) rfl rfl (cbl) (fun hHeld => ?_)
  refine pure_ (i := 0) (N := some 15) (v := ?_) (a' := ?_) #[true, false, false, false, false, false] rfl rfl (by kernel_rfl) (fun _ _ _ h => h) (Or.inl ⟨by rfl, ?_⟩) ?_ ?_
  rotate_left
  · intro w'
    go_simp
    with_reducible rfl
  rotate_left
  · simp only [Act.put, List.setIfInBounds_toArray, List.set_cons_zero, List.set_cons_succ, i64_w, i32_w]
    rfl
  refine take_ (i := 2) (N := some 17) (v := ?_) (a' := ?_) #[true, false, true, false, false, false] rfl rfl (by kernel_rfl) (fun _ _ _ h => h) (Or.inl ⟨by rfl, ?_⟩) hHeld ?_ ?_
  rotate_left
  · intro w' s0
    go_simp
    with_reducible rfl
  rotate_left
  · simp only [Act.put, List.setIfInBounds_toArray, List.set_cons_zero, List.set_cons_succ, i64_w, i32_w]
    rfl
  refine one_ (i := 1) (N := some 16) #[true, true, true, false, false, false] rfl rfl (by kernel_rfl) (by decide) (fun K hK => ?_)
  refine goes_ Try.func63 (by kernel_rfl) rfl #[.pointer (some ⟨g, 0, none⟩)] (by rfl) rfl rfl (by simp only [List.map_toArray, List.map_cons, List.map_nil]; rfl) ?_
  with_reducible refine (rows_texts g B rs e W1.drew ((H.out.below HB1.out).below (Below.refl _ _).drew) (by omega)).mono ?_
  rintro e w2 ⟨v2, rfl, HO2, HB2⟩
  refine ⟨_, rfl, ?_⟩
  obtain ⟨A2, c2, rfl⟩ := Kd.R_slice HO2.out
  have cb2 : w2.cell? ⟨w.heap.size + 1, 0, none⟩ = some (.slice Al list.length cl) := (HB2.out.cell (World.block_lt_of_cell? W1 _ cbl)).trans cbl
  have HW2 : Aside0 (Below W1.heap.size W1 w2) := ⟨(Below.refl _ W1).drew.trans HB2.out⟩
  refine hK.out _ _ (cb2) (fun hHeld => ?_)
  clear hK K
  refine norm_ (a' := ?_) ?_ ?_
  rotate_left
  · show Act.put _ (some 16) _ = _
    simp only [Act.put, List.setIfInBounds_toArray, List.set_cons_zero, List.set_cons_succ, i64_w, i32_w]
    rfl
  refine one_ (i := 3) (N := some 18) #[true, true, true, true, false, false] rfl rfl (by kernel_rfl) (by decide) (fun K hK => ?_)
  refine value_ (w1 := ?_) (v := ?_) (by rfl) rfl ?_ ?_
  rotate_left 2
  · go_simp
    constructor
    · rfl
    · rfl
  refine hK.out _ _ (cell_alloc_of cb2 _) (fun hHeld => ?_)
  clear hK K
  refine norm_ (a' := ?_) ?_ ?_
  rotate_left
  · show Act.put _ (some 18) _ = _
    simp only [Act.put, List.setIfInBounds_toArray, List.set_cons_zero, List.set_cons_succ, i64_w, i32_w]
    rfl
  refine one_ (i := 4) (N := some 19) #[true, true, true, true, true, false] rfl rfl (by kernel_rfl) (by decide) (fun K hK => ?_)
  refine goes_ Try.func30 (by kernel_rfl) rfl #[.slice (some ⟨w2.heap.size, 0, none⟩) 2 2] (by rfl) rfl rfl (by simp only [List.map_toArray, List.map_cons, List.map_nil]; rfl) ?_
  with_reducible refine (all_two A2 Al c2 cl rs.length w2.heap.size (rs.map (·.2)) list (idsOf2 rs list) w2 rfl (List.length_map ..).symm (Kd.R_reads' HO2.out).2.2 (Kd.R_reads' HO2.out).2.1 (Kd.C_below (Kd.C_below HC.out HB1.out) HW2.out) hcl'.out HIDS.out).mono ?_
  rintro e w3 ⟨v3, rfl, HS3, HB3⟩
  refine ⟨_, rfl, ?_⟩
  have HW3 : Aside0 (Below W1.heap.size W1 w3) := ⟨far_ HW2.out HB3.out⟩
  have cb3 : w3.cell? ⟨w.heap.size + 1, 0, none⟩ = some (.slice Al list.length cl) := (HB3.out.cell (World.block_lt_of_cell? w2 _ cb2)).trans cb2
  refine hK.out _ _ (cb3) (fun hHeld => ?_)
  clear hK K
  refine norm_ (a' := ?_) ?_ ?_
  rotate_left
  · show Act.put _ (some 19) _ = _
    simp only [Act.put, List.setIfInBounds_toArray, List.set_cons_zero, List.set_cons_succ, i64_w, i32_w]
    rfl
  refine pure_ (i := 5) (N := some 6) (v := ?_) (a' := ?_) #[true, true, true, true, true, true] rfl rfl (by kernel_rfl) (fun _ _ _ h => h) (Or.inl ⟨by rfl, ?_⟩) ?_ ?_
  rotate_left
  · intro w'
    go_simp
    with_reducible rfl
  rotate_left
  · simp only [Act.put, List.setIfInBounds_toArray, List.set_cons_zero, List.set_cons_succ, i64_w, i32_w]
    rfl
  refine done_ (by kernel_rfl) ?_

  clear cbl cb2 cb3
  have HR3 : Aside0 (RowsIn w3 B g rs e) := ⟨(H.out.below HB1.out).below HW3.out⟩
  rw [ids2_list] at HS3
  obtain ⟨hla, hlb⟩ := ids2_len rs list
  have HMG : Aside0 (matchG rs list = matchOf ((idsOf2 rs list).getD 0 []) ((idsOf2 rs list).getD 1 [])) := ⟨rfl⟩
  obtain ⟨a, ha⟩ : ∃ a, (idsOf2 rs list).getD 0 [] = a := ⟨_, rfl⟩
  obtain ⟨b, hb⟩ : ∃ b, (idsOf2 rs list).getD 1 [] = b := ⟨_, rfl⟩
  rw [ha, hb] at HS3 HMG
  rw [ha] at hla
  rw [hb] at hlb
  clear ha hb
  obtain ⟨gi, ci, A0, c0, A1, c1, rfl, x0, x1, k0, m0, k1, m1⟩ := S_two HS3.out
  have K0 := Aside0.mk k0
  have M0 := Aside0.mk m0
  have K1 := Aside0.mk k1
  have M1 := Aside0.mk m1
  have HLA := Aside0.mk hla
  have HLB := Aside0.mk hlb
  clear k0 m0 k1 m1 hla hlb HS3
  by_cases hok : rs.length ≤ 2000 ∧ list.length ≤ 2000
  · have HCS : Aside0 (comeS col list rs e = (comeF col list rs, e)) := ⟨if_pos hok⟩
    obtain ⟨hok1, hok2⟩ := hok
    have la : a.length ≤ 2000 := by rw [HLA.out]; exact hok1
    have lb : b.length ≤ 2000 := by rw [HLB.out]; exact hok2
    go_wp2
    refine start_ (n := 12) (S := fun w' => w'.cell? ⟨gi, 0, none⟩ = some (.slice A0 a.length c0) ∧ w'.cell? ⟨gi, 1, none⟩ = some (.slice A1 b.length c1)) (ds := []) #[false, false, false, false, false, false, false, false, false, false, false, false] (by kernel_rfl) rfl rfl ⟨x0, x1⟩ (fun hHeld => ?_)
    refine pure_ (i := 0) (N := some 21) (v := ?_) (a' := ?_) #[true, false, false, false, false, false, false, false, false, false, false, false] rfl rfl (by kernel_rfl) (fun _ _ _ h => h) (Or.inl ⟨by rfl, ?_⟩) ?_ ?_
    rotate_left
    · intro w'
      go_simp
      with_reducible rfl
    rotate_left
    · simp only [Act.put, List.setIfInBounds_toArray, List.set_cons_zero, List.set_cons_succ, i64_w, i32_w]
      rfl
    refine pure_ (i := 1) (N := some 22) (v := ?_) (a' := ?_) #[true, true, false, false, false, false, false, false, false, false, false, false] rfl rfl (by kernel_rfl) (fun _ _ _ h => h) (Or.inl ⟨by rfl, ?_⟩) ?_ ?_
    rotate_left
    · intro w'
      go_simp
      with_reducible rfl
    rotate_left
    · simp only [Act.put, List.setIfInBounds_toArray, List.set_cons_zero, List.set_cons_succ, i64_w, i32_w]
      rfl
    refine pure_ (i := 3) (N := some 24) (v := ?_) (a' := ?_) #[true, true, false, true, false, false, false, false, false, false, false, false] rfl rfl (by kernel_rfl) (fun _ _ _ h => h) (Or.inl ⟨by rfl, ?_⟩) ?_ ?_
    rotate_left
    · intro w'
      go_simp
      with_reducible rfl
    rotate_left
    · simp only [Act.put, List.setIfInBounds_toArray, List.set_cons_zero, List.set_cons_succ, i64_w, i32_w]
      rfl
    refine pure_ (i := 4) (N := some 25) (v := ?_) (a' := ?_) #[true, true, false, true, true, false, false, false, false, false, false, false] rfl rfl (by kernel_rfl) (fun _ _ _ h => h) (Or.inl ⟨by rfl, ?_⟩) ?_ ?_
    rotate_left
    · intro w'
      go_simp
      with_reducible rfl
    rotate_left
    · simp only [Act.put, List.setIfInBounds_toArray, List.set_cons_zero, List.set_cons_succ, i64_w, i32_w]
      rfl
    refine take_ (i := 2) (N := some 23) (v := ?_) (a' := ?_) #[true, true, true, true, true, false, false, false, false, false, false, false] rfl rfl (by kernel_rfl) (fun _ _ _ h => h) (Or.inl ⟨by rfl, ?_⟩) hHeld ?_ ?_
    rotate_left
    · rintro w' ⟨s0, s1⟩
      go_simp
      with_reducible rfl
    rotate_left
    · simp only [Act.put, List.setIfInBounds_toArray, List.set_cons_zero, List.set_cons_succ, i64_w, i32_w]
      rfl
    refine take_ (i := 5) (N := some 26) (v := ?_) (a' := ?_) #[true, true, true, true, true, true, false, false, false, false, false, false] rfl rfl (by kernel_rfl) (fun _ _ _ h => h) (Or.inl ⟨by rfl, ?_⟩) hHeld ?_ ?_
    rotate_left
    · rintro w' ⟨s0, s1⟩
      go_simp
      with_reducible rfl
    rotate_left
    · simp only [Act.put, List.setIfInBounds_toArray, List.set_cons_zero, List.set_cons_succ, i64_w, i32_w]
      rfl
    refine one_ (i := 6) (N := some 27) #[true, true, true, true, true, true, true, false, false, false, false, false] rfl rfl (by kernel_rfl) (by decide) (fun K hK => ?_)
    refine goes_ Try.func31 (by kernel_rfl) rfl #[.slice A0 a.length c0, .slice A1 b.length c1] (by rfl) rfl rfl (by simp only [List.map_toArray, List.map_cons, List.map_nil]; rfl) ?_
    with_reducible refine (lcs_New_pair A0 c0 a A1 c1 b w3.drew (Kd.C_drew K0.out) M0.out (Kd.C_drew K1.out) M1.out la lb).mono ?_
    rintro e4 w4 ⟨gp, d, rfl, HGP, HPI, HB4⟩
    refine ⟨_, rfl, ?_⟩
    have HW4 : Aside0 (Below w3.heap.size w3 w4) := ⟨(Below.refl _ w3).drew.trans HB4.out⟩
    have y0 : w4.cell? ⟨gi, 0, none⟩ = some (.slice A0 a.length c0) := (HW4.out.cell (World.block_lt_of_cell? w3 _ x0)).trans x0
    have y1 : w4.cell? ⟨gi, 1, none⟩ = some (.slice A1 b.length c1) := (HW4.out.cell (World.block_lt_of_cell? w3 _ x1)).trans x1
    refine hK.out _ _ ⟨y0, y1⟩ (fun hHeld => ?_)
    clear hK K
    refine norm_ (a' := ?_) ?_ ?_
    rotate_left
    · show Act.put _ (some 27) _ = _
      simp only [Act.put, List.setIfInBounds_toArray, List.set_cons_zero, List.set_cons_succ, i64_w, i32_w]
      rfl
    refine pure_ (i := 7) (N := some 20) (v := ?_) (a' := ?_) #[true, true, true, true, true, true, true, true, false, false, false, false] rfl rfl (by kernel_rfl) (fun _ _ _ h => h) (Or.inl ⟨by rfl, ?_⟩) ?_ ?_
    rotate_left
    · intro w'
      go_simp
      with_reducible rfl
    rotate_left
    · simp only [Act.put, List.setIfInBounds_toArray, List.set_cons_zero, List.set_cons_succ, i64_w, i32_w]
      rfl
    refine pure_ (i := 8) (N := some 28) (v := ?_) (a' := ?_) #[true, true, true, true, true, true, true, true, true, false, false, false] rfl rfl (by kernel_rfl) (fun _ _ _ h => h) (Or.inl ⟨by rfl, ?_⟩) ?_ ?_
    rotate_left
    · intro w'
      go_simp
      with_reducible rfl
    rotate_left
    · simp only [Act.put, List.setIfInBounds_toArray, List.set_cons_zero, List.set_cons_succ, i64_w, i32_w]
      rfl
    refine pure_ (i := 9) (N := some 29) (v := ?_) (a' := ?_) #[true, true, true, true, true, true, true, true, true, true, false, false] rfl rfl (by kernel_rfl) (fun _ _ _ h => h) (Or.inl ⟨by rfl, ?_⟩) ?_ ?_
    rotate_left
    · intro w'
      go_simp
      with_reducible rfl
    rotate_left
    · simp only [Act.put, List.setIfInBounds_toArray, List.set_cons_zero, List.set_cons_succ, i64_w, i32_w]
      rfl
    refine pure_ (i := 10) (N := some 7) (v := ?_) (a' := ?_) #[true, true, true, true, true, true, true, true, true, true, true, false] rfl rfl (by kernel_rfl) (fun _ _ _ h => h) (Or.inl ⟨by rfl, ?_⟩) ?_ ?_
    rotate_left
    · intro w'
      go_simp
      with_reducible rfl
    rotate_left
    · simp only [Act.put, List.setIfInBounds_toArray, List.set_cons_zero, List.set_cons_succ, i64_w, i32_w]
      rfl
    refine pure_ (i := 11) (N := some 8) (v := ?_) (a' := ?_) #[true, true, true, true, true, true, true, true, true, true, true, true] rfl rfl (by kernel_rfl) (fun _ _ _ h => h) (Or.inl ⟨by rfl, ?_⟩) ?_ ?_
    rotate_left
    · intro w'
      go_simp
      with_reducible rfl
    rotate_left
    · simp only [Act.put, List.setIfInBounds_toArray, List.set_cons_zero, List.set_cons_succ, i64_w, i32_w]
      rfl
    refine done_ (by kernel_rfl) ?_

    clear x0 x1 y0 y1
    have hmf : ∀ (fn : Fn) (first cap : Array Value) (w : World), (Instr.makeFunc fn first cap).run Try.prog w = .ok (.func fn first cap) w := fun _ _ _ _ => rfl
    go_wp2_with fail
    refine (pair_Match gp a b d _ ((HPI.out.below (below_alloc (Below.refl _ _) _)).below (below_alloc (Below.refl _ _) _))).mono ?_
    obtain ⟨w5, hw5⟩ : ∃ w5, (w4.alloc (.cells #[.slice none 0 0] 55)).alloc (.cells #[.int .i64 0] 3) = w5 := ⟨_, rfl⟩
    have hbl5 : Below w4.heap.size w4 w5 := by rw [← hw5]; exact ((Below.refl _ _).alloc (Nat.le_refl _) _).alloc (by simp) _
    have hs5 : w5.heap.size = w4.heap.size + 2 := by rw [← hw5]; simp
    have hBo : w5.heap[w4.heap.size]? = some (.cells #[.slice none 0 0] 55 (0, 0)) := by rw [← hw5, heap_alloc_old _ _ (by simp)]; exact blk_new _ _
    have hBa : w5.heap[w4.heap.size + 1]? = some (.cells #[.int .i64 0] 3 (0, 0)) := by rw [← hw5]; have := blk_new (w4.alloc (.cells #[.slice none 0 0] 55)) (.cells #[.int .i64 0] 3); simpa using this
    rw [hw5]
    clear hw5
    rintro e6 w6 ⟨vm, rfl, hm6, hp6, hg6⟩
    have hgp : gp < w4.heap.size := by obtain ⟨_, _, _, _, _, _, q1, _⟩ := HPI.out; exact blk_lt q1
    have hgpW : W1.heap.size ≤ gp := Nat.le_trans HW3.out.size HGP.out
    have hs41 : W1.heap.size ≤ w4.heap.size := Nat.le_trans HW3.out.size HW4.out.size
    have s1 := HS1.out
    have hC6 : ComeI w w6 w.heap.size (w4.heap.size + 1) (w.heap.size + 1) w.heap.size w4.heap.size Al cl list col 0 [] (.slice none 0 0) := by
      refine ⟨?_, ?_, ?_, ⟨?_, Kd.R_nil _ _ _ _ _⟩, ?_, by omega, by omega, by omega⟩
      · exact (hg6.block _ (blk_lt hBa) (fun e => by have := Option.some.inj e; omega)).trans hBa
      · exact (hg6.block _ (by omega) (fun e => by have := Option.some.inj e; omega)).trans (keep_ (keep_ (keep_ HBL.out HW3.out) HW4.out) hbl5)
      · exact (hg6.block _ (by omega) (fun e => by have := Option.some.inj e; omega)).trans (keep_ (keep_ (keep_ HBC.out HW3.out) HW4.out) hbl5)
      · exact (hg6.block _ (blk_lt hBo) (fun e => by have := Option.some.inj e; omega)).trans hBo
      · exact below_grown (far_ (far_ (far_ HB1.out HW3.out) HW4.out) hbl5) hg6 (by omega) (by omega)
    have hR6 : RowsIn w6 B g rs e := by
      obtain ⟨v, q1, q2, q3⟩ := H.out
      have hbw6 := hC6.2.2.2.2.1
      exact ⟨v, keep_ q1 hbw6, q2, Kd.R_below q3 hbw6⟩
    have HR6 := Aside0.mk hR6
    have HC6 := Aside0.mk hC6
    have HM6 := Aside0.mk hm6
    have hsz6 : w5.heap.size ≤ w6.heap.size := hg6.size
    have HS5 := Aside0.mk hs5
    clear hR6 hC6 hm6 hp6 hg6 hBo hBa hbl5 hs5 s1
    obtain ⟨Am, cm, rfl⟩ := Kd.R_slice HM6.out
    have hml : (matchOf a b).length = rs.length := by rw [← HMG.out]; exact matchG_len rs list
    have hup : Up list.length 0 (matchOf a b) := by rw [← HMG.out]; exact matchG_up rs list
    obtain ⟨m, hm⟩ : ∃ m, matchOf a b = m := ⟨_, rfl⟩
    rw [hm] at HM6 HMG hml hup ⊢
    clear hm
    have HUP := Aside0.mk hup
    have HML := Aside0.mk hml
    rw [hml] at HM6 ⊢
    clear hup hml
    go_wp2_with fail
    obtain ⟨w4b, hw4b⟩ : ∃ n, w4.heap.size = n := ⟨_, rfl⟩
    have HW4B := Aside0.mk hw4b
    rw [hw4b] at HC6 hgp hs41 ⊢
    have HS5' : Aside0 (w5.heap.size = w4b + 2) := ⟨by rw [HS5.out, hw4b]⟩
    clear hw4b HS5
    have HCF : Aside0 (comeF col list rs = comeGo col list m rs 0) := ⟨by rw [comeF, HMG.out]⟩
    have hsw6 : w.heap.size ≤ w6.heap.size := HC6.out.2.2.2.2.1.size
    go_loopw [40] (fun i wr => ∃ (k at_ : Nat) (o : List RowG) (v : Value), k ≤ rs.length ∧ at_ ≤ list.length ∧ i = .int .i64 k ∧ o.length ≤ k + at_ ∧ Aside0 (ComeI w wr w.heap.size (w4b + 1) (w.heap.size + 1) w.heap.size w4b Al cl list col at_ o v) ∧ Aside0 (KeepsF (w4b + 1) w4b w6 wr (.slice none 0 0) v) ∧ Aside0 (Up list.length at_ (m.drop k)) ∧ Aside0 (o ++ comeGo col list (m.drop k) (rs.drop k) at_ = comeF col list rs)) (fun i _ => rs.length - (intOf i).toNat)
    case atStart => exact ⟨0, 0, [], .slice none 0 0, Nat.zero_le _, Nat.zero_le _, rfl, by simp, HC6, ⟨KeepsF.refl _ _ _ _⟩, by simpa using HUP, ⟨by rw [HCF.out]; rfl⟩⟩
    case round =>
      obtain ⟨k, at_, o, v, hk, hatl, rfl, hol, HCr, HKr, HUr, HGr⟩ := hrel
      have hbw := HCr.out.2.2.2.2.1
      by_cases hlt : k < rs.length
      · obtain ⟨gm, cmm, hev, hgmB, hgmS, mcells, hgm⟩ := Kd.R_form HM6.out (by rw [HML.out]; omega)
        injection hev with e1 e2 e3
        subst e1; subst e3
        clear e2
        have hs5 := HS5'.out
        have hmc : wr.heap[gm]? = w6.heap[gm]? := HKr.out.2.1 gm hgmS (by omega) (by omega) (by simp [Value.ownBlock])
        obtain ⟨adm, em, hcm⟩ := at_num (Kd.R_reads' HM6.out).2.2 k (by rw [HML.out]; exact hlt)
        cases em
        rw [add0_] at hcm
        replace hcm : wr.cell? ⟨gm, k, none⟩ = some (.int .i64 (m.getD k 0)) := by rw [← hcm]; simp only [World.cell?, hmc]
        have hmd : m.drop k = m.getD k 0 :: m.drop (k + 1) := by rw [List.drop_eq_getElem_cons (by rw [HML.out]; exact hlt), getD_get (by rw [HML.out]; exact hlt)]
        have hrd : rs.drop k = rs.getD k ([], ByteArray.empty) :: rs.drop (k + 1) := by rw [List.drop_eq_getElem_cons hlt, getD_get hlt]
        rw [hmd] at HUr
        rw [hmd, hrd] at HGr
        clear hmd hrd hmc hgm
        obtain ⟨vg, q1, q2, q3⟩ := H.out
        obtain ⟨gb, cg, rfl, hcg, hCk⟩ := kRow_form q3 (by omega)
        have cgc : wr.cell? ⟨g, 0, none⟩ = some (.slice (some ⟨gb, 0, none⟩) rs.length cg) := cell_blk (keep_ q1 hbw) rfl
        obtain ⟨h16, hrg⟩ := at_row hCk k hlt
        replace hrg := range_below hrg hbw
        obtain ⟨x, hx⟩ : ∃ x, rs.getD k ([], ByteArray.empty) = x := ⟨_, rfl⟩
        rw [hx] at h16 hrg HGr
        obtain ⟨mk, hmk⟩ : ∃ mk, m.getD k 0 = mk := ⟨_, rfl⟩
        rw [hmk] at hcm HUr HGr
        have HX16 := Aside0.mk h16
        have HRG : Aside0 (wr.rangeAt gb (k * 17) (rowCells x)) := ⟨hrg⟩
        have hl17 := rowCells_len h16
        have hfold := fold_row h16
        have HBW : Aside0 (w.heap.size ≤ wr.heap.size) := ⟨hbw.size⟩
        have HQ : Aside0 (w4b + 2 ≤ wr.heap.size) := ⟨Nat.le_trans (by omega) HKr.out.1⟩
        obtain ⟨Ao, co, rfl⟩ := Kd.R_slice HCr.out.2.2.2.1.2
        have HOL : Aside0 (o.length ≤ 200000) := ⟨by omega⟩
        clear q1 q2 q3 hCk hrg hx hmk h16 hbw hcg hs5
        rcases HUr.out with ⟨rfl, hu⟩ | ⟨q, rfl, hq1, hq2, hu⟩
        · have HU := Aside0.mk hu
          clear hu HUr
          go_wp2_with (first
        | ((with_reducible refine gate_dst (N := 51) rfl ?_); refine wpList_load_mid rfl 63 _ rfl gb (k * 17) (by rfl) (rowCells x) _ HRG.out Try.underlying63 rfl (size_row' HX16.out) ?_)
        | ((with_reducible refine gate_store (t := 63) (p := 14) rfl ?_); refine wpList_store_row rfl 63 14 _ rfl rfl (b := wr.heap.size) rfl rfl (c' := (rowCells x).toArray) rfl (size_row HX16.out) (by rw [show (rowCells x).toArray.size = 17 from rowCells_len HX16.out]; rfl) rowCells_one ?_; intro w1 hb1 hl1 hz1; have hc1 := ComeI.below_ HCr.out hl1 HBW.out; have co1 : w1.cell? ⟨w4b, 0, none⟩ = some (.slice Ao o.length co) := cell_blk hc1.2.2.2.1.1 rfl; have HR1 : Aside0 (Kd.R kRow 63 w1 w.heap.size (fun _ => True) (.slice Ao o.length co) o) := ⟨hc1.2.2.2.1.2⟩; have HX1 := Aside0.mk hb1; have HL1 := Aside0.mk hl1; have HC1 := Aside0.mk hc1; clear hb1 hl1 hz1 hc1)
        | ((with_reducible refine gate_dst (N := 63) rfl ?_); refine wpList_load_row rfl 63 _ rfl wr.heap.size rfl 63 (rowCells x).toArray (0, 0) _ HX1.out Try.underlying63 rfl (size_row HX16.out) ?_)
        | (at_builtin; refine Kd.R_append kRow (w0 := w) w.heap.size rfl (.tmp 62) (.tmp 64) 55 63 (.agg (rowCells (noMarks, ByteArray.empty)).toArray) 32 rfl Try.underlying55 info_row rfl (by decide) (by decide) (.slice Ao o.length co) o x (rowCells x) (fun _ => True) (fun _ => False) rfl rfl (kRow_M HX16.out) (fun _ h => h.elim) (fun _ _ => trivial) HR1.out HC1.out.2.2.2.2.1 HC1.out.2.2.2.2.1.size (by have := HOL.out; omega) ?_; intro v4 w4 hr4 hb4 hg4 hat4; obtain ⟨A4, c4, hv4⟩ := Kd.R_slice hr4; subst hv4; have h4o := (hg4.block w4b (blk_lt HC1.out.2.2.2.1.1) (Kd.R_ne HR1.out HC1.out.2.2.2.1.1 (by decide))).trans HC1.out.2.2.2.1.1; have c4o := cell_blk (j := 0) h4o rfl; have f4o : w4.frozen? ⟨w4b, 0, none⟩ = false := frozen_of_row _ _ _ _ _ h4o; have HR4 := Aside0.mk hr4; have HB4x := Aside0.mk hb4; have HG4 := Aside0.mk hg4; have HAT := Aside0.mk hat4; clear hr4 hb4 hg4 hat4 h4o)
        | ((with_reducible refine gate_store (t := 55) (p := 9) rfl ?_); refine store_at (t := 55) (p := 9) (v := .tmp 65) (w1 := w4.setCell ⟨w4b, 0, none⟩ (.slice A4 (o ++ [x]).length c4)) ?hg ?ho ?hn ?hr ?_; (case ho => rfl); (case hg => rfl); (case hn => rfl); (case hr => first | (go_simp; done) | (go_simp; rfl)); intro w5 hw5; clear c4o f4o))
          go_roundw
          case measure => simp [intOf]; omega
          case rel => exact ⟨k + 1, at_, o ++ [x], _, by omega, hatl, by go_num, by simp; omega, ⟨HC1.out.put HG4.out HR4.out HB4x.out hw5⟩, ⟨HKr.out.trans ((KeepsF.below HL1.out).trans (KeepsF.put HG4.out HAT.out hw5))⟩, HU, ⟨by rw [← HGr.out, comeGo_no]; simp⟩⟩
        · have HU := Aside0.mk hu
          clear hu HUr
          have hvlt := Kd.R_lt HCr.out.2.2.2.1.2
          have HVLT := Aside0.mk hvlt
          clear hvlt
          go_wp2_with (first
        | ((with_reducible refine gate_dst (N := 51) rfl ?_); refine wpList_load_mid rfl 63 _ rfl gb (k * 17) (by rfl) (rowCells x) _ HRG.out Try.underlying63 rfl (size_row' HX16.out) ?_)
        | ((with_reducible refine gate_store (t := 63) (p := 14) rfl ?_); refine wpList_store_row rfl 63 14 _ rfl rfl (b := wr.heap.size) rfl rfl (c' := (rowCells x).toArray) rfl (size_row HX16.out) (by rw [show (rowCells x).toArray.size = 17 from rowCells_len HX16.out]; rfl) rowCells_one ?_; intro w1 hb1 hl1 hz1; have hc1 := ComeI.below_ HCr.out hl1 HBW.out;  have HX1 := Aside0.mk hb1; have HL1 := Aside0.mk hl1; have HC1 := Aside0.mk hc1; clear hb1 hl1 hz1 hc1))
          refine (fresh_calls w w1 w.heap.size (w4b + 1) (w.heap.size + 1) w.heap.size w4b Al cl list col at_ q o _ HC.out rfl HC1.out hcol (by omega) hq1 hl (by have := HOL.out; omega)).mono ?_
          rintro e7 wf ⟨vf, rfl, HCf, HBf, HKf⟩
          obtain ⟨of, hof⟩ : ∃ of, o ++ ((list.take q).drop at_).map (oneRow col) = of := ⟨_, rfl⟩
          have HOF := Aside0.mk hof
          have hofl : of.length = o.length + (q - at_) := by rw [← hof]; simp; omega
          rw [hof] at HCf
          have HXf : Aside0 (wf.heap[wr.heap.size]? = some (.cells (rowCells x).toArray 63 (0, 0))) := by
            have hq := HQ.out
            refine ⟨(HKf.out.2.1 _ (blk_lt HX1.out) (by omega) (by omega) (fun e => ?_)).trans HX1.out⟩
            have := HVLT.out _ e.symm
            omega
          obtain ⟨Af, cf, rfl⟩ := Kd.R_slice HCf.out.2.2.2.1.2
          have ccf : wf.cell? ⟨w.heap.size, 0, none⟩ = some (.int .i64 (col : Int)) := cell_blk HCf.out.2.2.1 rfl
          have hcx : col < x.1.length := by rw [HX16.out]; exact hcol
          obtain ⟨xv, cxf⟩ : ∃ xv, wf.cell? ⟨wr.heap.size, col, none⟩ = some (.int .u8 xv) := ⟨_, by rw [cell_of_row _ _ _ _ _ _ HXf.out, List.getElem?_toArray]; exact rowCells_get hcx⟩
          have fxf : wf.frozen? ⟨wr.heap.size, col, none⟩ = false := frozen_of_row _ _ _ _ _ HXf.out
          obtain ⟨x', hx'⟩ : ∃ x' : RowG, (x.1.set col 1, x.2) = x' := ⟨_, rfl⟩
          have HX' := Aside0.mk hx'
          have HSET : Aside0 ((rowCells x).toArray.setIfInBounds col (.int .u8 1) = (rowCells x').toArray) := ⟨by rw [rowCells_set hcx, hx']⟩
          have h16' : x'.1.length = 16 := by rw [← hx']; simpa using HX16.out
          have HX16' := Aside0.mk h16'
          have hl17' := rowCells_len h16'
          have hfold' := fold_row h16'
          clear hfold hl17 hof hx' h16' hcx
          have HOFL := Aside0.mk hofl
          clear hofl
          go_wp2_with (first
        | ((with_reducible refine gate_store (t := 5) (p := 59) rfl ?_); refine store_at (t := 5) (p := 59) (v := .const (.int .u8 1)) (w1 := wf.setCell ⟨wr.heap.size, col, none⟩ (.int .u8 1)) ?hg ?ho ?hn ?hr ?_; (case ho => rfl); (case hg => rfl); (case hn => rfl); (case hr => first | (go_simp; done) | (go_simp; rfl)); intro wg hwg; have hxg := (after_set hwg HXf.out HSET.out).1; have hqq := HQ.out; have hwq := HBW.out; have hs1 := HS1.out; have hcg := HCf.out.set_blk hwg (by omega) (by omega) (by omega) (by omega) (vf_ne HKf.out HL1.out HVLT.out (blk_lt HX1.out)) HBW.out; have cag : wg.cell? ⟨w4b + 1, 0, none⟩ = some (.int .i64 (q : Int)) := cell_blk hcg.1 rfl; have fag : wg.frozen? ⟨w4b + 1, 0, none⟩ = false := frozen_of_row _ _ _ _ _ hcg.1; have HXg := Aside0.mk hxg; have HCg := Aside0.mk hcg; clear hxg hcg hqq hwq hs1 ccf cxf fxf)
        | ((with_reducible refine gate_store (t := 3) (p := 10) rfl ?_); refine store_at (t := 3) (p := 10) (v := .tmp 61) (w1 := wg.setCell ⟨w4b + 1, 0, none⟩ (.int .i64 ((q : Int) + 1))) ?hg ?ho ?hn ?hr ?_; (case ho => rfl); (case hg => rfl); (case hn => rfl); (case hr => first | (go_simp; done) | (go_simp; rfl)); intro wh hwh; have hxh := set_at_keep hwh HXg.out (by have := HQ.out; omega); have hch := HCg.out.set_at1 hwh; have coh : wh.cell? ⟨w4b, 0, none⟩ = some (.slice Af of.length cf) := cell_blk hch.2.2.2.1.1 rfl; have HRh : Aside0 (Kd.R kRow 63 wh w.heap.size (fun _ => True) (.slice Af of.length cf) of) := ⟨hch.2.2.2.1.2⟩; have HXh := Aside0.mk hxh; have HCh := Aside0.mk hch; clear hxh hch cag fag)
        | ((with_reducible refine gate_dst (N := 63) rfl ?_); refine wpList_load_row rfl 63 _ rfl wr.heap.size rfl 63 (rowCells x').toArray (0, 0) _ HXh.out Try.underlying63 rfl (size_row HX16'.out) ?_)
        | (at_builtin; refine Kd.R_append kRow (w0 := w) w.heap.size rfl (.tmp 62) (.tmp 64) 55 63 (.agg (rowCells (noMarks, ByteArray.empty)).toArray) 32 rfl Try.underlying55 info_row rfl (by decide) (by decide) (.slice Af of.length cf) of x' (rowCells x') (fun _ => True) (fun _ => False) rfl rfl (kRow_M HX16'.out) (fun _ h => h.elim) (fun _ _ => trivial) HRh.out HCh.out.2.2.2.2.1 HCh.out.2.2.2.2.1.size (by have := HOL.out; have := HOFL.out; omega) ?_; intro v4 w4 hr4 hb4 hg4 hat4; obtain ⟨A4, c4, hv4⟩ := Kd.R_slice hr4; subst hv4; have h4o := (hg4.block w4b (blk_lt HCh.out.2.2.2.1.1) (Kd.R_ne HRh.out HCh.out.2.2.2.1.1 (by decide))).trans HCh.out.2.2.2.1.1; have c4o := cell_blk (j := 0) h4o rfl; have f4o : w4.frozen? ⟨w4b, 0, none⟩ = false := frozen_of_row _ _ _ _ _ h4o; have HR4 := Aside0.mk hr4; have HB4x := Aside0.mk hb4; have HG4 := Aside0.mk hg4; have HAT := Aside0.mk hat4; clear hr4 hb4 hg4 hat4 h4o)
        | ((with_reducible refine gate_store (t := 55) (p := 9) rfl ?_); refine store_at (t := 55) (p := 9) (v := .tmp 65) (w1 := w4.setCell ⟨w4b, 0, none⟩ (.slice A4 (of ++ [x']).length c4)) ?hg ?ho ?hn ?hr ?_; (case ho => rfl); (case hg => rfl); (case hn => rfl); (case hr => first | (go_simp; done) | (go_simp; rfl)); intro w5 hw5; clear c4o f4o))
          go_roundw
          case measure => simp [intOf]; omega
          case rel =>
            have hlen := HOFL.out
            refine ⟨k + 1, q + 1, of ++ [x'], _, by omega, by omega, by go_num, by simp; omega, ⟨HCh.out.put HG4.out HR4.out HB4x.out hw5⟩, ⟨HKr.out.trans ?_⟩, HU, ⟨?_⟩⟩
            · exact ((((KeepsF.below HL1.out).trans HKf.out).far hwg (Nat.le_refl _)).trans (KeepsF.set_blk hwh (.inl rfl))).trans (KeepsF.put HG4.out HAT.out hw5)
            · rw [← HGr.out, comeGo_yes, ← HOF.out, HX'.out]; simp
      · have hk' : k = rs.length := by omega
        subst hk'
        have hmn : m.drop rs.length = [] := List.drop_of_length_le (by rw [HML.out]; exact Nat.le_refl _)
        rw [hmn, comeGo_nil] at HGr
        have cbl : wr.cell? ⟨w.heap.size + 1, 0, none⟩ = some (.slice Al list.length cl) := cell_blk HCr.out.2.1 rfl
        clear hmn hbw
        go_wp2_with fail
        refine (fresh_calls w wr w.heap.size (w4b + 1) (w.heap.size + 1) w.heap.size w4b Al cl list col at_ list.length o _ HC.out rfl HCr.out hcol (Nat.le_refl _) hatl hl (by omega)).mono ?_
        rintro e7 wf ⟨vf, rfl, HCf, HBf, HKf⟩
        rw [List.take_length, HGr.out] at HCf
        obtain ⟨vg, q1, q2, q3⟩ := H.out
        have hbf := HCf.out.2.2.2.2.1
        have q1f := keep_ q1 hbf
        have cgf : wf.cell? ⟨g, 0, none⟩ = some vg := cell_blk q1f rfl
        have fgf : wf.frozen? ⟨g, 0, none⟩ = false := frozen_of_row _ _ _ _ _ q1f
        obtain ⟨Af, cf, rfl⟩ := Kd.R_slice HCf.out.2.2.2.1.2
        have cof : wf.cell? ⟨w4b, 0, none⟩ = some (.slice Af (comeF col list rs).length cf) := cell_blk HCf.out.2.2.2.1.1 rfl
        have Q1F := Aside0.mk q1f
        clear q1 q3 q1f hbf cbl
        go_wp2
        go_end0
        rw [HCS.out]
        refine ⟨rfl, ⟨⟨_, (after_set ⟨rfl⟩ Q1F.out rfl).1, q2, Kd.R_set (Kd.R_lower HCf.out.2.2.2.1.2 hB) Q1F.out (by decide) _ _⟩⟩, ⟨(HCf.out.2.2.2.2.1.mono hB).setCell (p := ⟨g, 0, none⟩) q2 _⟩⟩
  · have HCS : Aside0 (comeS col list rs e = (rs, 4)) := ⟨if_neg hok⟩
    have hlong : 2000 < a.length ∨ 2000 < b.length := by rw [HLA.out, HLB.out]; omega
    have z0 := C_cap K0.out
    have n0 := Kd.C_max K0.out
    have n1 := Kd.C_max K1.out
    obtain ⟨v, hg1, hg2, hg3⟩ := HR3.out
    have cg : w3.cell? ⟨g, 1, none⟩ = some (.int .i64 e) := cell_blk hg1 rfl
    have fg : w3.frozen? ⟨g, 1, none⟩ = false := frozen_of_row _ _ _ _ _ hg1
    have HG1 := Aside0.mk hg1
    have HG3 := Aside0.mk hg3
    clear hg1 hg3 z0
    go_wp2
    refine start_ (n := 12) (S := fun w' => w'.cell? ⟨gi, 0, none⟩ = some (.slice A0 a.length c0) ∧ w'.cell? ⟨gi, 1, none⟩ = some (.slice A1 b.length c1)) (ds := []) #[false, false, false, false, false, false, false, false, false, false, false, false] (by kernel_rfl) rfl rfl ⟨x0, x1⟩ (fun hHeld => ?_)
    refine pure_ (i := 0) (N := some 21) (v := ?_) (a' := ?_) #[true, false, false, false, false, false, false, false, false, false, false, false] rfl rfl (by kernel_rfl) (fun _ _ _ h => h) (Or.inl ⟨by rfl, ?_⟩) ?_ ?_
    rotate_left
    · intro w'
      go_simp
      with_reducible rfl
    rotate_left
    · simp only [Act.put, List.setIfInBounds_toArray, List.set_cons_zero, List.set_cons_succ, i64_w, i32_w]
      rfl
    refine pure_ (i := 1) (N := some 22) (v := ?_) (a' := ?_) #[true, true, false, false, false, false, false, false, false, false, false, false] rfl rfl (by kernel_rfl) (fun _ _ _ h => h) (Or.inl ⟨by rfl, ?_⟩) ?_ ?_
    rotate_left
    · intro w'
      go_simp
      with_reducible rfl
    rotate_left
    · simp only [Act.put, List.setIfInBounds_toArray, List.set_cons_zero, List.set_cons_succ, i64_w, i32_w]
      rfl
    refine pure_ (i := 3) (N := some 24) (v := ?_) (a' := ?_) #[true, true, false, true, false, false, false, false, false, false, false, false] rfl rfl (by kernel_rfl) (fun _ _ _ h => h) (Or.inl ⟨by rfl, ?_⟩) ?_ ?_
    rotate_left
    · intro w'
      go_simp
      with_reducible rfl
    rotate_left
    · simp only [Act.put, List.setIfInBounds_toArray, List.set_cons_zero, List.set_cons_succ, i64_w, i32_w]
      rfl
    refine pure_ (i := 4) (N := some 25) (v := ?_) (a' := ?_) #[true, true, false, true, true, false, false, false, false, false, false, false] rfl rfl (by kernel_rfl) (fun _ _ _ h => h) (Or.inl ⟨by rfl, ?_⟩) ?_ ?_
    rotate_left
    · intro w'
      go_simp
      with_reducible rfl
    rotate_left
    · simp only [Act.put, List.setIfInBounds_toArray, List.set_cons_zero, List.set_cons_succ, i64_w, i32_w]
      rfl
    refine take_ (i := 2) (N := some 23) (v := ?_) (a' := ?_) #[true, true, true, true, true, false, false, false, false, false, false, false] rfl rfl (by kernel_rfl) (fun _ _ _ h => h) (Or.inl ⟨by rfl, ?_⟩) hHeld ?_ ?_
    rotate_left
    · rintro w' ⟨s0, s1⟩
      go_simp
      with_reducible rfl
    rotate_left
    · simp only [Act.put, List.setIfInBounds_toArray, List.set_cons_zero, List.set_cons_succ, i64_w, i32_w]
      rfl
    refine take_ (i := 5) (N := some 26) (v := ?_) (a' := ?_) #[true, true, true, true, true, true, false, false, false, false, false, false] rfl rfl (by kernel_rfl) (fun _ _ _ h => h) (Or.inl ⟨by rfl, ?_⟩) hHeld ?_ ?_
    rotate_left
    · rintro w' ⟨s0, s1⟩
      go_simp
      with_reducible rfl
    rotate_left
    · simp only [Act.put, List.setIfInBounds_toArray, List.set_cons_zero, List.set_cons_succ, i64_w, i32_w]
      rfl
    refine one_ (i := 6) (N := some 27) #[true, true, true, true, true, true, true, false, false, false, false, false] rfl rfl (by kernel_rfl) (by decide) (fun K hK => ?_)
    refine goes_ Try.func31 (by kernel_rfl) rfl #[.slice A0 a.length c0, .slice A1 b.length c1] (by rfl) rfl rfl (by simp only [List.map_toArray, List.map_cons, List.map_nil]; rfl) ?_
    with_reducible refine (lcs_New_long A0 c0 a A1 c1 b w3.drew n0 n1 hlong).mono ?_
    rintro e4 w4 ⟨rfl, rfl⟩
    refine ⟨_, rfl, ?_⟩
    refine hK.out _ _ ⟨x0, x1⟩ (fun hHeld => ?_)
    clear hK K
    refine norm_ (a' := ?_) ?_ ?_
    rotate_left
    · show Act.put _ (some 27) _ = _
      simp only [Act.put, List.setIfInBounds_toArray, List.set_cons_zero, List.set_cons_succ, i64_w, i32_w]
      rfl
    refine pure_ (i := 7) (N := some 20) (v := ?_) (a' := ?_) #[true, true, true, true, true, true, true, true, false, false, false, false] rfl rfl (by kernel_rfl) (fun _ _ _ h => h) (Or.inl ⟨by rfl, ?_⟩) ?_ ?_
    rotate_left
    · intro w'
      go_simp
      with_reducible rfl
    rotate_left
    · simp only [Act.put, List.setIfInBounds_toArray, List.set_cons_zero, List.set_cons_succ, i64_w, i32_w]
      rfl
    refine pure_ (i := 8) (N := some 28) (v := ?_) (a' := ?_) #[true, true, true, true, true, true, true, true, true, false, false, false] rfl rfl (by kernel_rfl) (fun _ _ _ h => h) (Or.inl ⟨by rfl, ?_⟩) ?_ ?_
    rotate_left
    · intro w'
      go_simp
      with_reducible rfl
    rotate_left
    · simp only [Act.put, List.setIfInBounds_toArray, List.set_cons_zero, List.set_cons_succ, i64_w, i32_w]
      rfl
    refine pure_ (i := 9) (N := some 29) (v := ?_) (a' := ?_) #[true, true, true, true, true, true, true, true, true, true, false, false] rfl rfl (by kernel_rfl) (fun _ _ _ h => h) (Or.inl ⟨by rfl, ?_⟩) ?_ ?_
    rotate_left
    · intro w'
      go_simp
      with_reducible rfl
    rotate_left
    · simp only [Act.put, List.setIfInBounds_toArray, List.set_cons_zero, List.set_cons_succ, i64_w, i32_w]
      rfl
    refine pure_ (i := 10) (N := some 7) (v := ?_) (a' := ?_) #[true, true, true, true, true, true, true, true, true, true, true, false] rfl rfl (by kernel_rfl) (fun _ _ _ h => h) (Or.inl ⟨by rfl, ?_⟩) ?_ ?_
    rotate_left
    · intro w'
      go_simp
      with_reducible rfl
    rotate_left
    · simp only [Act.put, List.setIfInBounds_toArray, List.set_cons_zero, List.set_cons_succ, i64_w, i32_w]
      rfl
    refine pure_ (i := 11) (N := some 8) (v := ?_) (a' := ?_) #[true, true, true, true, true, true, true, true, true, true, true, true] rfl rfl (by kernel_rfl) (fun _ _ _ h => h) (Or.inl ⟨by rfl, ?_⟩) ?_ ?_
    rotate_left
    · intro w'
      go_simp
      with_reducible rfl
    rotate_left
    · simp only [Act.put, List.setIfInBounds_toArray, List.set_cons_zero, List.set_cons_succ, i64_w, i32_w]
      rfl
    refine done_ (by kernel_rfl) ?_

    go_wp2
    refine bodyPost_ret (v := .tuple #[]) (by simp [results, Try.results39, go_sem]) rfl ?_
    rw [HCS.out]
    refine ⟨rfl, ⟨⟨v, (after_set ⟨rfl⟩ HG1.out rfl).1, hg2, Kd.R_set HG3.out HG1.out (by decide) _ _⟩⟩, ⟨?_⟩⟩
    exact (((HB1.out.mono hB).trans (HW3.out.mono (Nat.le_trans hB HB1.out.size)) |>.drew)).setCell (p := ⟨g, 1, none⟩) hg2 _
end Go.Proofs.Ytnlekganlliikaa.X
-- part XLose
namespace Go.Proofs.Ytnlekganlliikaa.X
open Go.RowKit Go.Proofs.YtnlekganlliikaaW.PrintWords Go.Proofs.YtnlekganlliikaaW.PrintLast Go.Proofs.YtnlekganlliikaaW.PrintMore
open Go.Maps
set_option linter.unusedVariables false
set_option linter.unusedSimpArgs false
/-- A maker, at block g. -/
def MakerIn (w0 W : World) (B g N : Nat) (Ap : Option Addr) (cp cnt : Nat) (marks : List ByteArray) (lost : Nat → Option (List (List ByteArray))) (out : List S37) (e : Int) : Prop :=
  ∃ vm gm vo, W.heap[g]? = some (.cells #[.slice Ap N cp, vm, .map (some gm), vo, .int .i64 e] 78 (0, 0)) ∧ B ≤ g ∧ Kd.R Kd.string 9 W B (fun _ => True) vm marks ∧
    Kd.R k37 37 W B (fun _ => True) vo out ∧ LostIn w0 W B gm N cnt lost
/-- All blocks of cells but one, and those of lists, stay. -/
def LKeeps (Ba : Nat) (W W' : World) : Prop := W.heap.size ≤ W'.heap.size ∧ ∀ (k : Nat) (cells : Array Value) (q : TypeId) (fr : Nat × Nat), k ≠ Ba → W.heap[k]? = some (.cells cells q fr) → q ≠ 34 → W'.heap[k]? = some (.cells cells q fr)
theorem LKeeps.refl (Ba : Nat) (W : World) : LKeeps Ba W W := ⟨Nat.le_refl _, fun _ _ _ _ _ h _ => h⟩
theorem LKeeps.trans {Ba : Nat} {W W1 W2 : World} (h : LKeeps Ba W W1) (k : LKeeps Ba W1 W2) : LKeeps Ba W W2 := ⟨Nat.le_trans h.1 k.1, fun i c q fr hi hw h1 => k.2 i c q fr hi (h.2 i c q fr hi hw h1) h1⟩
theorem LKeeps.below {Ba : Nat} {W W1 : World} (h : Below W.heap.size W W1) : LKeeps Ba W W1 := ⟨h.size, fun i c q fr _ hi _ => (h.block i (Array.getElem?_eq_some_iff.1 hi).1).trans hi⟩
theorem LKeeps.grown {Ba gm : Nat} {W W1 : World} {es : Array MapEntry} {clock : Nat} (h : W.grownBy W1 (some gm)) (hm : W.heap[gm]? = some (.map es clock)) : LKeeps Ba W W1 :=
  ⟨h.size, fun i c q fr _ hi _ => (h.block i (Array.getElem?_eq_some_iff.1 hi).1 (fun e => by injection e with e; subst e; rw [hm] at hi; cases hi)).trans hi⟩
theorem LKeeps.set {Ba g j : Nat} {W : World} {v : Value} {cs : Array Value} {t : TypeId} (hg : W.heap[g]? = some (.cells cs t (0, 0))) (ht : g = Ba ∨ t = 34) : LKeeps Ba W (W.setCell ⟨g, j, none⟩ v) :=
  ⟨by simp [World.setCell], fun k c q fr hk hi hq => (heap_set_other (fun e => by
    subst e
    rcases ht with h | h
    · exact hk h
    · rw [hg] at hi; injection hi with hi; injection hi with _ hi; exact hq (hi ▸ h)) v).trans hi⟩
theorem LKeeps.blk {Ba k : Nat} {W W' : World} (h : LKeeps Ba W W') {cs : Array Value} {t : TypeId} (hk : W.heap[k]? = some (.cells cs t (0, 0))) (hne : k ≠ Ba) (ht : t ≠ 34) : W'.heap[k]? = some (.cells cs t (0, 0)) := h.2 k cs t (0, 0) hne hk ht
theorem LKeeps.R {α : Type} {d : Kd α} {e Ba B : Nat} {W W' : World} {v : Value} {xs : List α} {cs : Array Value} {t : TypeId} (h : LKeeps Ba W W') (hR : Kd.R d e W B (fun _ => True) v xs) (hBa : W.heap[Ba]? = some (.cells cs t (0, 0))) (ht : ∀ q, q ∈ e :: d.E → q ≠ t ∧ q ≠ 34) : Kd.R d e W' B (fun _ => True) v xs :=
  Kd.R_map hR fun k cells q fr hk hq => (h.2 k cells q fr (fun e => by subst e; rw [hBa] at hk; injection hk with hk; injection hk with _ hk; exact (ht q hq).1 hk.symm) hk (ht q hq).2).trans hk.symm
theorem MakerIn.keep {w0 W W' : World} {B g N Ba : Nat} {Ap : Option Addr} {cp cnt' : Nat} {marks : List ByteArray} {lost' : Nat → Option (List (List ByteArray))} {out : List S37} {e : Int} {vm vo : Value} {gm : Nat} {cs : Array Value}
    (h1 : W.heap[g]? = some (.cells #[.slice Ap N cp, vm, .map (some gm), vo, .int .i64 e] 78 (0, 0))) (h2 : B ≤ g) (h3 : Kd.R Kd.string 9 W B (fun _ => True) vm marks) (h4 : Kd.R k37 37 W B (fun _ => True) vo out)
    (hk : LKeeps Ba W W') (hBa : W.heap[Ba]? = some (.cells cs 3 (0, 0))) (hl : LostIn w0 W' B gm N cnt' lost') : MakerIn w0 W' B g N Ap cp cnt' marks lost' out e :=
  ⟨vm, gm, vo, hk.blk h1 (blk_ne h1 hBa (by decide)) (by decide), h2, hk.R h3 hBa (by decide), hk.R h4 hBa (by decide), hl⟩
/-- What is lost ahead of a line, of one column: up to a place. -/
def loseAt (N col : Nat) (parent : List ByteArray) (lost : Nat → Option (List (List ByteArray))) (to_ at_ line : Nat) : Nat → Option (List (List ByteArray)) :=
  if at_ < to_ then fun q => if q = line then some (((lost line).getD (List.replicate N [])).set col ((parent.take to_).drop at_)) else lost q else lost
theorem C_sub {α : Type} {d : Kd α} {w : World} {A : Option Addr} {n : Nat} {xs : List α} (h : d.C w A n xs) {a b : Nat} (hab : a < b) (hb : b ≤ n) : ∃ ad, A = some ad ∧ d.C w (some (ad.add (a * d.sz))) (b - a) ((xs.take b).drop a) := by
  obtain ⟨h1, h2, h3⟩ := h
  obtain ⟨ad, rfl, hc⟩ := h3 (by omega)
  refine ⟨ad, rfl, by rw [List.length_drop, List.length_take]; omega, by omega, fun _ => ⟨_, rfl, fun j p hj => ?_⟩⟩
  rw [List.getElem?_drop, List.getElem?_take] at hj
  split at hj
  · obtain ⟨c, h4, h5, h6⟩ := hc (a + j) p hj
    refine ⟨c, h4, h5, fun i u hu => ?_⟩
    have := h6 i u hu
    rw [Go.Deep.add_add, ← this]
    congr 2
    rw [Nat.add_mul]; omega
  · cases hj
set_option maxRecDepth 100000 in
set_option maxHeartbeats 4000000 in
theorem lose_calls (w0 w : World) (B Ba Bm Bc g N cp cnt col at_ to_ line : Nat) (Ap : Option Addr) (parents : List (List ByteArray)) (marks : List ByteArray) (lost : Nat → Option (List (List ByteArray))) (out : List S37) (e : Int)
    (hP : Kd.C KS w0 Ap N parents) (hB : B = w0.heap.size) (hw : Below B w0 w) (h : MakerIn w0 w B g N Ap cp cnt marks lost out e) (ha : w.heap[Ba]? = some (.cells #[.int .i64 (at_ : Int)] 3 (0, 0)))
    (hm : w.heap[Bm]? = some (.cells #[.pointer (some ⟨g, 0, none⟩)] 75 (0, 0))) (hc : w.heap[Bc]? = some (.cells #[.int .i64 (col : Int)] 3 (0, 0))) (hBa : B ≤ Ba) (hac : Bc ≠ Ba) (hcol : col < N)
    (hto : to_ ≤ (parents.getD col []).length) (hlen : (parents.getD col []).length ≤ 1000000) (hline : line ≤ 1000000) (hN : N ≤ 1000) (hcnt : cnt ≤ 1000000000) (hat : at_ ≤ 1000001) :
    Calls Try.prog 74 #[.int .i64 (to_ : Int), .int .i64 (line : Int), .pointer (some ⟨Ba, 0, none⟩), .pointer (some ⟨Bm, 0, none⟩), .pointer (some ⟨Bc, 0, none⟩)] w fun e' w' => e' = .returned (.tuple #[]) ∧
      Aside0 (MakerIn w0 w' B g N Ap cp (cnt + 1) marks (loseAt N col (parents.getD col []) lost to_ at_ line) out e) ∧ Aside0 (w'.heap[Ba]? = some (.cells #[.int .i64 ((to_ + 1 : Nat) : Int)] 3 (0, 0))) ∧ Aside0 (Below B w w') ∧ Aside0 (LKeeps Ba w w') := by
  have HP := Aside0.mk hP
  have HW := Aside0.mk hw
  have HB := Aside0.mk hB
  have HA := Aside0.mk ha
  have HM := Aside0.mk hm
  have HCC := Aside0.mk hc
  have HI := Aside0.mk h
  have ca : w.cell? ⟨Ba, 0, none⟩ = some (.int .i64 (at_ : Int)) := cell_blk ha rfl
  have fa : w.frozen? ⟨Ba, 0, none⟩ = false := frozen_of_row _ _ _ _ _ ha
  have hBw : B ≤ w.heap.size := by rw [hB]; exact (by rw [hB] at hw; exact hw.size)
  have HBW := Aside0.mk hBw
  clear hP hw hB ha hm hc h hBw
  by_cases hlt : at_ < to_
  · obtain ⟨vm, gm, vo, h1, h2, h3, h4, h5⟩ := HI.out
    have d1 : decide ((at_ : Int) < (to_ : Int)) = true := decide_eq_true (by omega)
    have d2 : decide (at_ < to_) = true := decide_eq_true hlt
    have hPl : parents.length = N := HP.out.1
    obtain ⟨ad, A5, c5, rfl, hrow, hc5, hC5⟩ := at_slice HP.out col hcol
    obtain ⟨ad5, rfl, _⟩ := hC5.2.2 (by omega)
    have HC5 := Aside0.mk hC5
    have HROW := Aside0.mk hrow
    have H1 := Aside0.mk h1
    have H2 := Aside0.mk h2
    have H3 := Aside0.mk h3
    have H4 := Aside0.mk h4
    have H5 := Aside0.mk h5
    have cm : w.cell? ⟨Bm, 0, none⟩ = some (.pointer (some ⟨g, 0, none⟩)) := cell_blk HM.out rfl
    have cg : w.cell? ⟨g, 2, none⟩ = some (.map (some gm)) := cell_blk h1 rfl
    have cg_0 : w.cell? ⟨g, 0, none⟩ = some (.slice (some ad) N cp) := cell_blk h1 rfl
    have heq : ∀ (A : Option Addr) (l c : Nat) (W : World), (binOp .eql 22 (.slice A l c) (.slice none 0 0)).run Try.prog W = .ok (.bool A.isNone) W := fun A l c W => _root_.Go.run_eql_slice_nil W 22 34 A l c Try.underlying22
    obtain ⟨vl, hlk, hvl⟩ := h5.look_later line hline
    have hlk0 := hlk w (Below.refl _ _)
    have HLKF := Aside0.mk hlk
    have HN : Aside0 ((N : Int) ≤ 1000) := ⟨by omega⟩
    have hcolN : (col : Int) < (N : Int) := by omega
    clear hC5 hrow h1 h2 h3 h4 h5 hlk
    rcases hvl with ⟨hno, rfl⟩ | ⟨ls, g1, hls, hg1, hr1, rfl⟩
    · have HNO := Aside0.mk hno
      clear hno
      have hmk : ∀ W : World, (Instr.makeSlice 22 (.int .i64 (N : Int)) (.int .i64 (N : Int))).run Try.prog W = .ok (.slice (some ⟨W.heap.size, 0, none⟩) N N) (W.alloc (.cells (Array.replicate N (.slice none 0 0)) 34)) := by
        obtain ⟨i0, hi0, hz0⟩ := Option.map_eq_some_iff.1 info34
        simp only [Prod.mk.injEq] at hz0
        obtain ⟨hz, hsz, hby⟩ := hz0
        intro W
        have h := run_make (P := Try.prog) W 22 34 i0 (.slice none 0 0) Try.underlying22 hi0 hz .i64 .i64 (N : Int) (N : Int) (by omega) (by omega) (by rw [hby]; omega) (by omega)
        rw [h, hsz]
        have e : (N : Int).toNat = N := by omega
        rw [e, show (Value.slice none 0 0).cells = #[Value.slice none 0 0] from rfl, madeCells_one, List.toArray_replicate]
      obtain ⟨w3, hup, HL3, HG3⟩ := (H5.out.below ((Below.refl _ w).drew)).put line hline HNO.out (by simpa using HBW.out) hcnt
      have hup : (Instr.mapUpdate 76 (.map (some gm)) (.int .i64 (line : Int)) (.slice (some ⟨w.heap.size, 0, none⟩) N N)).run Try.prog ((w.alloc (.cells (Array.replicate N (.slice none 0 0)) 34)).drew) = .ok () w3 := hup
      go_enter Try.func74, Try.ntmps74
      go_wp2
      refine start_ (n := 12) (S := fun w' => w'.cell? ⟨Bm, 0, none⟩ = some (.pointer (some ⟨g, 0, none⟩)) ∧ w'.cell? ⟨g, 2, none⟩ = some (.map (some gm)) ∧ w'.cell? ⟨g, 0, none⟩ = some (.slice (some ad) N cp)) (ds := [11]) #[false, false, false, false, false, false, false, false, false, false, false, false] (by kernel_rfl) rfl rfl ⟨cm, cg, cg_0⟩ (fun hHeld => ?_)
      refine pure_ (i := 4) (N := some 21) (v := ?_) (a' := ?_) #[false, false, false, false, true, false, false, false, false, false, false, false] rfl rfl (by kernel_rfl) (fun _ _ _ h => h) (Or.inl ⟨by rfl, ?_⟩) ?_ ?_
      rotate_left
      · intro w'
        go_simp
        with_reducible rfl
      rotate_left
      · simp only [Act.put, List.setIfInBounds_toArray, List.set_cons_zero, List.set_cons_succ, i64_w, i32_w]
        rfl
      refine take_ (i := 0) (N := some 17) (v := ?_) (a' := ?_) #[true, false, false, false, true, false, false, false, false, false, false, false] rfl rfl (by kernel_rfl) (fun _ _ _ h => h) (Or.inl ⟨by rfl, ?_⟩) hHeld ?_ ?_
      rotate_left
      · rintro w' ⟨s0, s1, s2⟩
        go_simp
        with_reducible rfl
      rotate_left
      · simp only [Act.put, List.setIfInBounds_toArray, List.set_cons_zero, List.set_cons_succ, i64_w, i32_w]
        rfl
      refine pure_ (i := 1) (N := some 18) (v := ?_) (a' := ?_) #[true, true, false, false, true, false, false, false, false, false, false, false] rfl rfl (by kernel_rfl) (fun _ _ _ h => h) (Or.inl ⟨by rfl, ?_⟩) ?_ ?_
      rotate_left
      · intro w'
        go_simp
        with_reducible rfl
      rotate_left
      · simp only [Act.put, List.setIfInBounds_toArray, List.set_cons_zero, List.set_cons_succ, i64_w, i32_w]
        rfl
      refine pure_ (i := 2) (N := some 19) (v := ?_) (a' := ?_) #[true, true, true, false, true, false, false, false, false, false, false, false] rfl rfl (by kernel_rfl) (fun _ _ _ h => h) (Or.inl ⟨by rfl, ?_⟩) ?_ ?_
      rotate_left
      · intro w'
        go_simp
        with_reducible rfl
      rotate_left
      · simp only [Act.put, List.setIfInBounds_toArray, List.set_cons_zero, List.set_cons_succ, i64_w, i32_w]
        rfl
      refine take_ (i := 3) (N := some 20) (v := ?_) (a' := ?_) #[true, true, true, true, true, false, false, false, false, false, false, false] rfl rfl (by kernel_rfl) (fun _ _ _ h => h) (Or.inl ⟨by rfl, ?_⟩) hHeld ?_ ?_
      rotate_left
      · rintro w' ⟨s0, s1, s2⟩
        go_simp
        with_reducible rfl
      rotate_left
      · simp only [Act.put, List.setIfInBounds_toArray, List.set_cons_zero, List.set_cons_succ, i64_w, i32_w]
        rfl
      refine take_ (i := 5) (N := some 22) (v := ?_) (a' := ?_) #[true, true, true, true, true, true, false, false, false, false, false, false] rfl rfl (by kernel_rfl) (fun _ _ _ h => h) (Or.inl ⟨by rfl, ?_⟩) hHeld ?_ ?_
      rotate_left
      · rintro w' ⟨s0, s1, s2⟩
        go_simp
        with_reducible rfl
      rotate_left
      · simp only [Act.put, List.setIfInBounds_toArray, List.set_cons_zero, List.set_cons_succ, i64_w, i32_w]
        rfl
      refine pure_ (i := 6) (N := some 23) (v := ?_) (a' := ?_) #[true, true, true, true, true, true, true, false, false, false, false, false] rfl rfl (by kernel_rfl) (fun _ _ _ h => h) (Or.inl ⟨by rfl, ?_⟩) ?_ ?_
      rotate_left
      · intro w'
        go_simp
        with_reducible rfl
      rotate_left
      · simp only [Act.put, List.setIfInBounds_toArray, List.set_cons_zero, List.set_cons_succ, i64_w, i32_w]
        rfl
      refine pure_ (i := 7) (N := some 24) (v := ?_) (a' := ?_) #[true, true, true, true, true, true, true, true, false, false, false, false] rfl rfl (by kernel_rfl) (fun _ _ _ h => h) (Or.inl ⟨by rfl, ?_⟩) ?_ ?_
      rotate_left
      · intro w'
        go_simp
        with_reducible rfl
      rotate_left
      · simp only [Act.put, List.setIfInBounds_toArray, List.set_cons_zero, List.set_cons_succ, i64_w, i32_w]
        rfl
      refine take_ (i := 8) (N := some 25) (v := ?_) (a' := ?_) #[true, true, true, true, true, true, true, true, true, false, false, false] rfl rfl (by kernel_rfl) (fun _ _ _ h => h) (Or.inl ⟨by rfl, ?_⟩) hHeld ?_ ?_
      rotate_left
      · rintro w' ⟨s0, s1, s2⟩
        go_simp
        with_reducible rfl
      rotate_left
      · simp only [Act.put, List.setIfInBounds_toArray, List.set_cons_zero, List.set_cons_succ, i64_w, i32_w]
        rfl
      refine pure_ (i := 9) (N := some 26) (v := ?_) (a' := ?_) #[true, true, true, true, true, true, true, true, true, true, false, false] rfl rfl (by kernel_rfl) (fun _ _ _ h => h) (Or.inl ⟨by rfl, ?_⟩) ?_ ?_
      rotate_left
      · intro w'
        go_simp
        with_reducible rfl
      rotate_left
      · simp only [Act.put, List.setIfInBounds_toArray, List.set_cons_zero, List.set_cons_succ, i64_w, i32_w]
        rfl
      refine one_ (i := 10) (N := some 27) #[true, true, true, true, true, true, true, true, true, true, true, false] rfl rfl (by kernel_rfl) (by decide) (fun K hK => ?_)
      refine value_ (w1 := ?_) (v := ?_) (by rfl) rfl ?_ ?_
      rotate_left 2
      · go_simp
        constructor
        · rfl
        · rfl
      refine hK.out _ _ ⟨cell_alloc_of cm _, cell_alloc_of cg _, cell_alloc_of cg_0 _⟩ (fun hHeld => ?_)
      clear hK K
      refine norm_ (a' := ?_) ?_ ?_
      rotate_left
      · show Act.put _ (some 27) _ = _
        simp only [Act.put, List.setIfInBounds_toArray, List.set_cons_zero, List.set_cons_succ, i64_w, i32_w]
        rfl
      refine last_ (i := 11) (N := none) #[true, true, true, true, true, true, true, true, true, true, true, true] rfl rfl (by kernel_rfl) (by decide) (fun K hK => ?_)
      refine skip_ (w1 := ?_) (by rfl) rfl ?_ ?_
      rotate_left
      · go_simp
        rfl
      refine hK.out _ _ ?_
      clear hK K
      refine done_ (by kernel_rfl) ?_

      have HL1 : Aside0 (LostIn w0 w3 B gm N (cnt + 1) (fun q => if q = line then some (List.replicate N []) else lost q)) := HL3
      obtain ⟨es, clock, hmap⟩ := H5.out.isMap
      have HK1 : Aside0 (LKeeps Ba w w3) := ⟨(LKeeps.below (((Below.refl _ w).drew.alloc (by simp) _))).trans (LKeeps.grown HG3.out (es := es) (clock := clock) (by rw [heap_alloc_old _ _ (by simpa using H5.out.lt)]; exact hmap))⟩
      have HBW3 : Aside0 (Below B w w3) := ⟨(((Below.refl B w).drew.alloc (by simpa using HBW.out) _)).grown HG3.out (by simp; have := HBW.out; omega) (fun j hj => by injection hj with hj; subst hj; obtain ⟨_, _, _, _, hbm, _⟩ := H5.out; exact hbm)⟩
      have HA3 : Aside0 (w3.heap[Ba]? = some (.cells #[.int .i64 (at_ : Int)] 3 (0, 0))) := ⟨(HG3.out.block _ (by have := blk_lt HA.out; simp; omega) (fun e => by injection e with e; have h := HA.out; rw [e, hmap] at h; cases h)).trans ((heap_alloc_old _ _ (by simpa using blk_lt HA.out)).trans HA.out)⟩
      have HLS : Aside0 ((fun q => if q = line then some (List.replicate N []) else lost q) line = some (List.replicate N [])) := ⟨if_pos rfl⟩
      obtain ⟨v1, hlk1, hv1⟩ := HL1.out.look_later line hline
      rw [if_pos rfl] at hv1
      obtain ⟨g1, hg1, hr1, rfl⟩ : ∃ g1, B ≤ g1 ∧ HeadRow w0 w3 N g1 (List.replicate N []) ∧ v1 = .slice (some ⟨g1, 0, none⟩) N N := by
        rcases hv1 with ⟨h, _⟩ | ⟨ls, g1, h, a, b, c⟩
        · cases h
        · cases h; exact ⟨g1, a, b, c⟩
      have HR1 := Aside0.mk hr1
      have hlk3 := hlk1 _ ((Below.refl _ w3).drew)
      have hlk3' := hlk1 _ (Below.refl _ w3)
      clear hr1 hv1 hlk1 hup cm cg cg_0 hlk0
      have hbw1 : Below B w w3 := HBW3.out
      have hsz1 : w.heap.size ≤ w3.heap.size := hbw1.size
      have hww : Below w0.heap.size w0 w3 := by rw [← HB.out]; exact HW.out.trans hbw1
      have cm1 : w3.cell? ⟨Bm, 0, none⟩ = some (.pointer (some ⟨g, 0, none⟩)) := cell_blk (HK1.out.blk HM.out (blk_ne HM.out HA.out (by decide)) (by decide)) rfl
      have h1k := HK1.out.blk H1.out (blk_ne H1.out HA.out (by decide)) (by decide)
      have cg2 : w3.cell? ⟨g, 2, none⟩ = some (.map (some gm)) := cell_blk h1k rfl
      have cg0 : w3.cell? ⟨g, 0, none⟩ = some (.slice (some ad) N cp) := cell_blk h1k rfl
      have cc1 : w3.cell? ⟨Bc, 0, none⟩ = some (.int .i64 (col : Int)) := cell_blk (HK1.out.blk HCC.out hac (by decide)) rfl
      have ha1 : w3.heap[Ba]? = some (.cells #[.int .i64 (at_ : Int)] 3 (0, 0)) := HA3.out
      have ca1 : w3.cell? ⟨Ba, 0, none⟩ = some (.int .i64 (at_ : Int)) := cell_blk ha1 rfl
      have cp1 : w3.cell? (ad.add col) = some (.slice (some ad5) (parents.getD col []).length c5) := (hww.cell (World.block_lt_of_cell? w0 _ HROW.out)).trans HROW.out
      have hlook1 : (Instr.lookup 76 (.map (some gm)) (.int .i64 (line : Int)) false).run Try.prog w3.drew = .ok (.slice (some ⟨g1, 0, none⟩) N N) w3.drew := hlk3
      have HLK1 := Aside0.mk hlk3'
      obtain ⟨vold, cv1, fv1⟩ := HR1.out.cell hcol
      have hq1 : to_ ≤ c5 := by omega
      have hq2 : at_ ≤ to_ := by omega
      have hq3 : ¬ c5 = at_ := by omega
      have HHA1 := Aside0.mk ha1
      have HWW := Aside0.mk hww
      have HBW1 := Aside0.mk hbw1
      clear h1k ha1 hww hbw1
      go_wp2
      refine start_ (n := 19) (S := fun w' => w'.cell? ⟨Bm, 0, none⟩ = some (.pointer (some ⟨g, 0, none⟩)) ∧ w'.cell? ⟨g, 2, none⟩ = some (.map (some gm)) ∧ w'.cell? ⟨g, 0, none⟩ = some (.slice (some ad) N cp) ∧ w'.cell? ⟨Bc, 0, none⟩ = some (.int .i64 (col : Int)) ∧ w'.cell? ⟨Ba, 0, none⟩ = some (.int .i64 (at_ : Int)) ∧ w'.cell? (ad.add col) = some (.slice (some ad5) (parents.getD col []).length c5) ∧ (Instr.lookup 76 (.map (some gm)) (.int .i64 (line : Int)) false).run Try.prog w' = .ok (.slice (some ⟨g1, 0, none⟩) N N) w') (ds := [18]) #[false, false, false, false, false, false, false, false, false, false, false, false, false, false, false, false, false, false, false] (by kernel_rfl) rfl rfl ⟨cm1, cg2, cg0, cc1, ca1, cp1, hlook1⟩ (fun hHeld => ?_)
      refine pure_ (i := 4) (N := some 32) (v := ?_) (a' := ?_) #[false, false, false, false, true, false, false, false, false, false, false, false, false, false, false, false, false, false, false] rfl rfl (by kernel_rfl) (fun _ _ _ h => h) (Or.inl ⟨by rfl, ?_⟩) ?_ ?_
      rotate_left
      · intro w'
        go_simp
        with_reducible rfl
      rotate_left
      · simp only [Act.put, List.setIfInBounds_toArray, List.set_cons_zero, List.set_cons_succ, i64_w, i32_w]
        rfl
      refine pure_ (i := 15) (N := some 43) (v := ?_) (a' := ?_) #[false, false, false, false, true, false, false, false, false, false, false, false, false, false, false, true, false, false, false] rfl rfl (by kernel_rfl) (fun _ _ _ h => h) (Or.inl ⟨by rfl, ?_⟩) ?_ ?_
      rotate_left
      · intro w'
        go_simp
        with_reducible rfl
      rotate_left
      · simp only [Act.put, List.setIfInBounds_toArray, List.set_cons_zero, List.set_cons_succ, i64_w, i32_w]
        rfl
      refine take_ (i := 0) (N := some 28) (v := ?_) (a' := ?_) #[true, false, false, false, true, false, false, false, false, false, false, false, false, false, false, true, false, false, false] rfl rfl (by kernel_rfl) (fun _ _ _ h => h) (Or.inl ⟨by rfl, ?_⟩) hHeld ?_ ?_
      rotate_left
      · rintro w' ⟨s0, s1, s2, s3, s4, s5, s6⟩
        go_simp
        with_reducible rfl
      rotate_left
      · simp only [Act.put, List.setIfInBounds_toArray, List.set_cons_zero, List.set_cons_succ, i64_w, i32_w]
        rfl
      refine pure_ (i := 1) (N := some 29) (v := ?_) (a' := ?_) #[true, true, false, false, true, false, false, false, false, false, false, false, false, false, false, true, false, false, false] rfl rfl (by kernel_rfl) (fun _ _ _ h => h) (Or.inl ⟨by rfl, ?_⟩) ?_ ?_
      rotate_left
      · intro w'
        go_simp
        with_reducible rfl
      rotate_left
      · simp only [Act.put, List.setIfInBounds_toArray, List.set_cons_zero, List.set_cons_succ, i64_w, i32_w]
        rfl
      refine pure_ (i := 2) (N := some 30) (v := ?_) (a' := ?_) #[true, true, true, false, true, false, false, false, false, false, false, false, false, false, false, true, false, false, false] rfl rfl (by kernel_rfl) (fun _ _ _ h => h) (Or.inl ⟨by rfl, ?_⟩) ?_ ?_
      rotate_left
      · intro w'
        go_simp
        with_reducible rfl
      rotate_left
      · simp only [Act.put, List.setIfInBounds_toArray, List.set_cons_zero, List.set_cons_succ, i64_w, i32_w]
        rfl
      refine take_ (i := 3) (N := some 31) (v := ?_) (a' := ?_) #[true, true, true, true, true, false, false, false, false, false, false, false, false, false, false, true, false, false, false] rfl rfl (by kernel_rfl) (fun _ _ _ h => h) (Or.inl ⟨by rfl, ?_⟩) hHeld ?_ ?_
      rotate_left
      · rintro w' ⟨s0, s1, s2, s3, s4, s5, s6⟩
        go_simp
        with_reducible rfl
      rotate_left
      · simp only [Act.put, List.setIfInBounds_toArray, List.set_cons_zero, List.set_cons_succ, i64_w, i32_w]
        rfl
      refine take_ (i := 5) (N := some 33) (v := ?_) (a' := ?_) #[true, true, true, true, true, true, false, false, false, false, false, false, false, false, false, true, false, false, false] rfl rfl (by kernel_rfl) (fun _ _ _ h => h) (Or.inl ⟨by rfl, ?_⟩) hHeld ?_ ?_
      rotate_left
      · rintro w' ⟨s0, s1, s2, s3, s4, s5, s6⟩
        go_simp
        with_reducible rfl
      rotate_left
      · simp only [Act.put, List.setIfInBounds_toArray, List.set_cons_zero, List.set_cons_succ, i64_w, i32_w]
        rfl
      refine take_ (i := 6) (N := some 34) (v := ?_) (a' := ?_) #[true, true, true, true, true, true, true, false, false, false, false, false, false, false, false, true, false, false, false] rfl rfl (by kernel_rfl) (fun _ _ _ h => h) (Or.inl ⟨by rfl, ?_⟩) hHeld ?_ ?_
      rotate_left
      · rintro w' ⟨s0, s1, s2, s3, s4, s5, s6⟩
        go_simp
        with_reducible rfl
      rotate_left
      · simp only [Act.put, List.setIfInBounds_toArray, List.set_cons_zero, List.set_cons_succ, i64_w, i32_w]
        rfl
      refine take_ (i := 7) (N := some 35) (v := ?_) (a' := ?_) #[true, true, true, true, true, true, true, true, false, false, false, false, false, false, false, true, false, false, false] rfl rfl (by kernel_rfl) (fun _ _ _ h => h) (Or.inl ⟨by rfl, ?_⟩) hHeld ?_ ?_
      rotate_left
      · rintro w' ⟨s0, s1, s2, s3, s4, s5, s6⟩
        go_simp
        with_reducible rfl
      rotate_left
      · simp only [Act.put, List.setIfInBounds_toArray, List.set_cons_zero, List.set_cons_succ, i64_w, i32_w]
        rfl
      refine pure_ (i := 8) (N := some 36) (v := ?_) (a' := ?_) #[true, true, true, true, true, true, true, true, true, false, false, false, false, false, false, true, false, false, false] rfl rfl (by kernel_rfl) (fun _ _ _ h => h) (Or.inl ⟨by rfl, ?_⟩) ?_ ?_
      rotate_left
      · intro w'
        go_simp
        with_reducible rfl
      rotate_left
      · simp only [Act.put, List.setIfInBounds_toArray, List.set_cons_zero, List.set_cons_succ, i64_w, i32_w]
        rfl
      refine pure_ (i := 9) (N := some 37) (v := ?_) (a' := ?_) #[true, true, true, true, true, true, true, true, true, true, false, false, false, false, false, true, false, false, false] rfl rfl (by kernel_rfl) (fun _ _ _ h => h) (Or.inl ⟨by rfl, ?_⟩) ?_ ?_
      rotate_left
      · intro w'
        go_simp
        with_reducible rfl
      rotate_left
      · simp only [Act.put, List.setIfInBounds_toArray, List.set_cons_zero, List.set_cons_succ, i64_w, i32_w]
        rfl
      refine take_ (i := 10) (N := some 38) (v := ?_) (a' := ?_) #[true, true, true, true, true, true, true, true, true, true, true, false, false, false, false, true, false, false, false] rfl rfl (by kernel_rfl) (fun _ _ _ h => h) (Or.inl ⟨by rfl, ?_⟩) hHeld ?_ ?_
      rotate_left
      · rintro w' ⟨s0, s1, s2, s3, s4, s5, s6⟩
        go_simp
        with_reducible rfl
      rotate_left
      · simp only [Act.put, List.setIfInBounds_toArray, List.set_cons_zero, List.set_cons_succ, i64_w, i32_w]
        rfl
      refine take_ (i := 11) (N := some 39) (v := ?_) (a' := ?_) #[true, true, true, true, true, true, true, true, true, true, true, true, false, false, false, true, false, false, false] rfl rfl (by kernel_rfl) (fun _ _ _ h => h) (Or.inl ⟨by rfl, ?_⟩) hHeld ?_ ?_
      rotate_left
      · rintro w' ⟨s0, s1, s2, s3, s4, s5, s6⟩
        go_simp
        with_reducible rfl
      rotate_left
      · simp only [Act.put, List.setIfInBounds_toArray, List.set_cons_zero, List.set_cons_succ, i64_w, i32_w]
        rfl
      refine pure_ (i := 12) (N := some 40) (v := ?_) (a' := ?_) #[true, true, true, true, true, true, true, true, true, true, true, true, true, false, false, true, false, false, false] rfl rfl (by kernel_rfl) (fun _ _ _ h => h) (Or.inl ⟨by rfl, ?_⟩) ?_ ?_
      rotate_left
      · intro w'
        go_simp
        with_reducible rfl
      rotate_left
      · simp only [Act.put, List.setIfInBounds_toArray, List.set_cons_zero, List.set_cons_succ, i64_w, i32_w]
        rfl
      refine take_ (i := 13) (N := some 41) (v := ?_) (a' := ?_) #[true, true, true, true, true, true, true, true, true, true, true, true, true, true, false, true, false, false, false] rfl rfl (by kernel_rfl) (fun _ _ _ h => h) (Or.inl ⟨by rfl, ?_⟩) hHeld ?_ ?_
      rotate_left
      · rintro w' ⟨s0, s1, s2, s3, s4, s5, s6⟩
        go_simp
        with_reducible rfl
      rotate_left
      · simp only [Act.put, List.setIfInBounds_toArray, List.set_cons_zero, List.set_cons_succ, i64_w, i32_w]
        rfl
      refine take_ (i := 14) (N := some 42) (v := ?_) (a' := ?_) #[true, true, true, true, true, true, true, true, true, true, true, true, true, true, true, true, false, false, false] rfl rfl (by kernel_rfl) (fun _ _ _ h => h) (Or.inl ⟨by rfl, ?_⟩) hHeld ?_ ?_
      rotate_left
      · rintro w' ⟨s0, s1, s2, s3, s4, s5, s6⟩
        go_simp
        with_reducible rfl
      rotate_left
      · simp only [Act.put, List.setIfInBounds_toArray, List.set_cons_zero, List.set_cons_succ, i64_w, i32_w]
        rfl
      refine pure_ (i := 16) (N := some 44) (v := ?_) (a' := ?_) #[true, true, true, true, true, true, true, true, true, true, true, true, true, true, true, true, true, false, false] rfl rfl (by kernel_rfl) (fun _ _ _ h => h) (Or.inl ⟨by rfl, ?_⟩) ?_ ?_
      rotate_left
      · intro w'
        go_simp
        with_reducible rfl
      rotate_left
      · simp only [Act.put, List.setIfInBounds_toArray, List.set_cons_zero, List.set_cons_succ, i64_w, i32_w]
        rfl
      refine pure_ (i := 17) (N := some 45) (v := ?_) (a' := ?_) #[true, true, true, true, true, true, true, true, true, true, true, true, true, true, true, true, true, true, false] rfl rfl (by kernel_rfl) (fun _ _ _ h => h) (Or.inl ⟨by rfl, ?_⟩) ?_ ?_
      rotate_left
      · intro w'
        go_simp
        with_reducible rfl
      rotate_left
      · simp only [Act.put, List.setIfInBounds_toArray, List.set_cons_zero, List.set_cons_succ, i64_w, i32_w]
        rfl
      refine last_ (i := 18) (N := none) #[true, true, true, true, true, true, true, true, true, true, true, true, true, true, true, true, true, true, true] rfl rfl (by kernel_rfl) (by decide) (fun K hK => ?_)
      refine skip_ (w1 := ?_) (by rfl) rfl ?_ ?_
      rotate_left
      · go_simp
        rfl
      refine hK.out _ _ ?_
      clear hK K
      refine done_ (by kernel_rfl) ?_

      obtain ⟨l, hl⟩ : ∃ l, ((parents.getD col []).take to_).drop at_ = l := ⟨_, rfl⟩
      have hll : l.length = to_ - at_ := by rw [← hl, List.length_drop, List.length_take]; omega
      have hlK : KS.K w0 l [.slice (some (ad5.add at_)) (to_ - at_) (c5 - at_)] := by
        obtain ⟨ad', e', hCs⟩ := C_sub HC5.out hlt hto
        obtain rfl := Option.some.inj e'
        rw [hl, ← hll, show at_ * Kd.string.sz = at_ from Nat.mul_one _] at hCs
        have := strs_K (c := c5 - at_) hCs (by omega)
        rwa [hll] at this
      have hL4 := (HL1.out.store line hline (if_pos rfl) HLK1.out (c := col) hlK).below ((Below.refl _ _).drew)
      obtain ⟨_, inner, hin, _⟩ := HR1.out
      have hK4 : LKeeps Ba w3 ((w3.setCell ⟨g1, col, none⟩ (.slice (some (ad5.add at_)) (to_ - at_) (c5 - at_))).drew) := (LKeeps.set hin (.inr rfl)).trans (LKeeps.below ((Below.refl _ _).drew))
      have ha4 : ((w3.setCell ⟨g1, col, none⟩ (.slice (some (ad5.add at_)) (to_ - at_) (c5 - at_))).drew).heap[Ba]? = some (.cells #[.int .i64 (at_ : Int)] 3 (0, 0)) := (heap_set_other (blk_ne HHA1.out hin (by decide)) _).trans HHA1.out
      have hb4 : Below B w ((w3.setCell ⟨g1, col, none⟩ (.slice (some (ad5.add at_)) (to_ - at_) (c5 - at_))).drew) := (HBW1.out.setCell (p := ⟨g1, col, none⟩) hg1 _).drew
      obtain ⟨w4, hw4⟩ : ∃ w4, (w3.setCell ⟨g1, col, none⟩ (.slice (some (ad5.add at_)) (to_ - at_) (c5 - at_))).drew = w4 := ⟨_, rfl⟩
      rw [hw4] at hL4 hK4 ha4 hb4 ⊢
      have ca4 : w4.cell? ⟨Ba, 0, none⟩ = some (.int .i64 (at_ : Int)) := cell_blk ha4 rfl
      have fa4 : w4.frozen? ⟨Ba, 0, none⟩ = false := frozen_of_row _ _ _ _ _ ha4
      have HL4 := Aside0.mk hL4
      have HK4 := Aside0.mk hK4
      have HA4 := Aside0.mk ha4
      have HB4 := Aside0.mk hb4
      have HLO : Aside0 (loseAt N col (parents.getD col []) lost to_ at_ line = fun q => if q = line then some ((List.replicate N []).set col l) else (if q = line then some (List.replicate N []) else lost q)) := ⟨by rw [loseAt, if_pos hlt, hl]; funext q; by_cases e : q = line <;> simp [e, HNO.out]⟩
      clear hL4 hK4 ha4 hb4 hw4 hl hll hlK hin cm1 cg2 cg0 cc1 ca1 cp1 hlook1 cv1 fv1
      go_wp2
      go_end0
      have hk5 : LKeeps Ba w4 (w4.setCell ⟨Ba, 0, none⟩ (.int .i64 ((to_ : Int) + 1))) := LKeeps.set HA4.out (.inl rfl)
      have hk6 : LKeeps Ba w (w4.setCell ⟨Ba, 0, none⟩ (.int .i64 ((to_ : Int) + 1))) := (HK1.out.trans HK4.out).trans hk5
      refine ⟨rfl, ⟨by rw [HLO.out]; exact MakerIn.keep H1.out H2.out H3.out H4.out hk6 HA.out ((HL4.out.set HA4.out (by decide) _))⟩, ⟨?_⟩, ⟨HB4.out.setCell (p := ⟨Ba, 0, none⟩) hBa _⟩, ⟨hk6⟩⟩
      rw [heap_set_same HA4.out]
      simp
    · have HL1 : Aside0 (LostIn w0 w B gm N (cnt + 1) lost) := ⟨H5.out.mono (by omega)⟩
      have HK1 : Aside0 (LKeeps Ba w w) := ⟨LKeeps.refl _ _⟩
      have HR1 := Aside0.mk hr1
      have HLS := Aside0.mk hls
      clear hr1 hls
      go_enter Try.func74, Try.ntmps74
      go_wp2
      have hbw1 : Below B w w := Below.refl _ _
      have hsz1 : w.heap.size ≤ w.heap.size := hbw1.size
      have hww : Below w0.heap.size w0 w := by rw [← HB.out]; exact HW.out.trans hbw1
      have cm1 : w.cell? ⟨Bm, 0, none⟩ = some (.pointer (some ⟨g, 0, none⟩)) := cell_blk (HK1.out.blk HM.out (blk_ne HM.out HA.out (by decide)) (by decide)) rfl
      have h1k := HK1.out.blk H1.out (blk_ne H1.out HA.out (by decide)) (by decide)
      have cg2 : w.cell? ⟨g, 2, none⟩ = some (.map (some gm)) := cell_blk h1k rfl
      have cg0 : w.cell? ⟨g, 0, none⟩ = some (.slice (some ad) N cp) := cell_blk h1k rfl
      have cc1 : w.cell? ⟨Bc, 0, none⟩ = some (.int .i64 (col : Int)) := cell_blk (HK1.out.blk HCC.out hac (by decide)) rfl
      have ha1 : w.heap[Ba]? = some (.cells #[.int .i64 (at_ : Int)] 3 (0, 0)) := HA.out
      have ca1 : w.cell? ⟨Ba, 0, none⟩ = some (.int .i64 (at_ : Int)) := cell_blk ha1 rfl
      have cp1 : w.cell? (ad.add col) = some (.slice (some ad5) (parents.getD col []).length c5) := (hww.cell (World.block_lt_of_cell? w0 _ HROW.out)).trans HROW.out
      have hlook1 : (Instr.lookup 76 (.map (some gm)) (.int .i64 (line : Int)) false).run Try.prog w.drew = .ok (.slice (some ⟨g1, 0, none⟩) N N) w.drew := HLKF.out _ ((Below.refl _ w).drew)
      have HLK1 := Aside0.mk (HLKF.out w (Below.refl _ _))
      obtain ⟨vold, cv1, fv1⟩ := HR1.out.cell hcol
      have hq1 : to_ ≤ c5 := by omega
      have hq2 : at_ ≤ to_ := by omega
      have hq3 : ¬ c5 = at_ := by omega
      have HHA1 := Aside0.mk ha1
      have HWW := Aside0.mk hww
      have HBW1 := Aside0.mk hbw1
      clear h1k ha1 hww hbw1
      refine start_ (n := 19) (S := fun w' => w'.cell? ⟨Bm, 0, none⟩ = some (.pointer (some ⟨g, 0, none⟩)) ∧ w'.cell? ⟨g, 2, none⟩ = some (.map (some gm)) ∧ w'.cell? ⟨g, 0, none⟩ = some (.slice (some ad) N cp) ∧ w'.cell? ⟨Bc, 0, none⟩ = some (.int .i64 (col : Int)) ∧ w'.cell? ⟨Ba, 0, none⟩ = some (.int .i64 (at_ : Int)) ∧ w'.cell? (ad.add col) = some (.slice (some ad5) (parents.getD col []).length c5) ∧ (Instr.lookup 76 (.map (some gm)) (.int .i64 (line : Int)) false).run Try.prog w' = .ok (.slice (some ⟨g1, 0, none⟩) N N) w') (ds := [18]) #[false, false, false, false, false, false, false, false, false, false, false, false, false, false, false, false, false, false, false] (by kernel_rfl) rfl rfl ⟨cm1, cg2, cg0, cc1, ca1, cp1, hlook1⟩ (fun hHeld => ?_)
      refine pure_ (i := 4) (N := some 32) (v := ?_) (a' := ?_) #[false, false, false, false, true, false, false, false, false, false, false, false, false, false, false, false, false, false, false] rfl rfl (by kernel_rfl) (fun _ _ _ h => h) (Or.inl ⟨by rfl, ?_⟩) ?_ ?_
      rotate_left
      · intro w'
        go_simp
        with_reducible rfl
      rotate_left
      · simp only [Act.put, List.setIfInBounds_toArray, List.set_cons_zero, List.set_cons_succ, i64_w, i32_w]
        rfl
      refine pure_ (i := 15) (N := some 43) (v := ?_) (a' := ?_) #[false, false, false, false, true, false, false, false, false, false, false, false, false, false, false, true, false, false, false] rfl rfl (by kernel_rfl) (fun _ _ _ h => h) (Or.inl ⟨by rfl, ?_⟩) ?_ ?_
      rotate_left
      · intro w'
        go_simp
        with_reducible rfl
      rotate_left
      · simp only [Act.put, List.setIfInBounds_toArray, List.set_cons_zero, List.set_cons_succ, i64_w, i32_w]
        rfl
      refine take_ (i := 0) (N := some 28) (v := ?_) (a' := ?_) #[true, false, false, false, true, false, false, false, false, false, false, false, false, false, false, true, false, false, false] rfl rfl (by kernel_rfl) (fun _ _ _ h => h) (Or.inl ⟨by rfl, ?_⟩) hHeld ?_ ?_
      rotate_left
      · rintro w' ⟨s0, s1, s2, s3, s4, s5, s6⟩
        go_simp
        with_reducible rfl
      rotate_left
      · simp only [Act.put, List.setIfInBounds_toArray, List.set_cons_zero, List.set_cons_succ, i64_w, i32_w]
        rfl
      refine pure_ (i := 1) (N := some 29) (v := ?_) (a' := ?_) #[true, true, false, false, true, false, false, false, false, false, false, false, false, false, false, true, false, false, false] rfl rfl (by kernel_rfl) (fun _ _ _ h => h) (Or.inl ⟨by rfl, ?_⟩) ?_ ?_
      rotate_left
      · intro w'
        go_simp
        with_reducible rfl
      rotate_left
      · simp only [Act.put, List.setIfInBounds_toArray, List.set_cons_zero, List.set_cons_succ, i64_w, i32_w]
        rfl
      refine pure_ (i := 2) (N := some 30) (v := ?_) (a' := ?_) #[true, true, true, false, true, false, false, false, false, false, false, false, false, false, false, true, false, false, false] rfl rfl (by kernel_rfl) (fun _ _ _ h => h) (Or.inl ⟨by rfl, ?_⟩) ?_ ?_
      rotate_left
      · intro w'
        go_simp
        with_reducible rfl
      rotate_left
      · simp only [Act.put, List.setIfInBounds_toArray, List.set_cons_zero, List.set_cons_succ, i64_w, i32_w]
        rfl
      refine take_ (i := 3) (N := some 31) (v := ?_) (a' := ?_) #[true, true, true, true, true, false, false, false, false, false, false, false, false, false, false, true, false, false, false] rfl rfl (by kernel_rfl) (fun _ _ _ h => h) (Or.inl ⟨by rfl, ?_⟩) hHeld ?_ ?_
      rotate_left
      · rintro w' ⟨s0, s1, s2, s3, s4, s5, s6⟩
        go_simp
        with_reducible rfl
      rotate_left
      · simp only [Act.put, List.setIfInBounds_toArray, List.set_cons_zero, List.set_cons_succ, i64_w, i32_w]
        rfl
      refine take_ (i := 5) (N := some 33) (v := ?_) (a' := ?_) #[true, true, true, true, true, true, false, false, false, false, false, false, false, false, false, true, false, false, false] rfl rfl (by kernel_rfl) (fun _ _ _ h => h) (Or.inl ⟨by rfl, ?_⟩) hHeld ?_ ?_
      rotate_left
      · rintro w' ⟨s0, s1, s2, s3, s4, s5, s6⟩
        go_simp
        with_reducible rfl
      rotate_left
      · simp only [Act.put, List.setIfInBounds_toArray, List.set_cons_zero, List.set_cons_succ, i64_w, i32_w]
        rfl
      refine take_ (i := 6) (N := some 34) (v := ?_) (a' := ?_) #[true, true, true, true, true, true, true, false, false, false, false, false, false, false, false, true, false, false, false] rfl rfl (by kernel_rfl) (fun _ _ _ h => h) (Or.inl ⟨by rfl, ?_⟩) hHeld ?_ ?_
      rotate_left
      · rintro w' ⟨s0, s1, s2, s3, s4, s5, s6⟩
        go_simp
        with_reducible rfl
      rotate_left
      · simp only [Act.put, List.setIfInBounds_toArray, List.set_cons_zero, List.set_cons_succ, i64_w, i32_w]
        rfl
      refine take_ (i := 7) (N := some 35) (v := ?_) (a' := ?_) #[true, true, true, true, true, true, true, true, false, false, false, false, false, false, false, true, false, false, false] rfl rfl (by kernel_rfl) (fun _ _ _ h => h) (Or.inl ⟨by rfl, ?_⟩) hHeld ?_ ?_
      rotate_left
      · rintro w' ⟨s0, s1, s2, s3, s4, s5, s6⟩
        go_simp
        with_reducible rfl
      rotate_left
      · simp only [Act.put, List.setIfInBounds_toArray, List.set_cons_zero, List.set_cons_succ, i64_w, i32_w]
        rfl
      refine pure_ (i := 8) (N := some 36) (v := ?_) (a' := ?_) #[true, true, true, true, true, true, true, true, true, false, false, false, false, false, false, true, false, false, false] rfl rfl (by kernel_rfl) (fun _ _ _ h => h) (Or.inl ⟨by rfl, ?_⟩) ?_ ?_
      rotate_left
      · intro w'
        go_simp
        with_reducible rfl
      rotate_left
      · simp only [Act.put, List.setIfInBounds_toArray, List.set_cons_zero, List.set_cons_succ, i64_w, i32_w]
        rfl
      refine pure_ (i := 9) (N := some 37) (v := ?_) (a' := ?_) #[true, true, true, true, true, true, true, true, true, true, false, false, false, false, false, true, false, false, false] rfl rfl (by kernel_rfl) (fun _ _ _ h => h) (Or.inl ⟨by rfl, ?_⟩) ?_ ?_
      rotate_left
      · intro w'
        go_simp
        with_reducible rfl
      rotate_left
      · simp only [Act.put, List.setIfInBounds_toArray, List.set_cons_zero, List.set_cons_succ, i64_w, i32_w]
        rfl
      refine take_ (i := 10) (N := some 38) (v := ?_) (a' := ?_) #[true, true, true, true, true, true, true, true, true, true, true, false, false, false, false, true, false, false, false] rfl rfl (by kernel_rfl) (fun _ _ _ h => h) (Or.inl ⟨by rfl, ?_⟩) hHeld ?_ ?_
      rotate_left
      · rintro w' ⟨s0, s1, s2, s3, s4, s5, s6⟩
        go_simp
        with_reducible rfl
      rotate_left
      · simp only [Act.put, List.setIfInBounds_toArray, List.set_cons_zero, List.set_cons_succ, i64_w, i32_w]
        rfl
      refine take_ (i := 11) (N := some 39) (v := ?_) (a' := ?_) #[true, true, true, true, true, true, true, true, true, true, true, true, false, false, false, true, false, false, false] rfl rfl (by kernel_rfl) (fun _ _ _ h => h) (Or.inl ⟨by rfl, ?_⟩) hHeld ?_ ?_
      rotate_left
      · rintro w' ⟨s0, s1, s2, s3, s4, s5, s6⟩
        go_simp
        with_reducible rfl
      rotate_left
      · simp only [Act.put, List.setIfInBounds_toArray, List.set_cons_zero, List.set_cons_succ, i64_w, i32_w]
        rfl
      refine pure_ (i := 12) (N := some 40) (v := ?_) (a' := ?_) #[true, true, true, true, true, true, true, true, true, true, true, true, true, false, false, true, false, false, false] rfl rfl (by kernel_rfl) (fun _ _ _ h => h) (Or.inl ⟨by rfl, ?_⟩) ?_ ?_
      rotate_left
      · intro w'
        go_simp
        with_reducible rfl
      rotate_left
      · simp only [Act.put, List.setIfInBounds_toArray, List.set_cons_zero, List.set_cons_succ, i64_w, i32_w]
        rfl
      refine take_ (i := 13) (N := some 41) (v := ?_) (a' := ?_) #[true, true, true, true, true, true, true, true, true, true, true, true, true, true, false, true, false, false, false] rfl rfl (by kernel_rfl) (fun _ _ _ h => h) (Or.inl ⟨by rfl, ?_⟩) hHeld ?_ ?_
      rotate_left
      · rintro w' ⟨s0, s1, s2, s3, s4, s5, s6⟩
        go_simp
        with_reducible rfl
      rotate_left
      · simp only [Act.put, List.setIfInBounds_toArray, List.set_cons_zero, List.set_cons_succ, i64_w, i32_w]
        rfl
      refine take_ (i := 14) (N := some 42) (v := ?_) (a' := ?_) #[true, true, true, true, true, true, true, true, true, true, true, true, true, true, true, true, false, false, false] rfl rfl (by kernel_rfl) (fun _ _ _ h => h) (Or.inl ⟨by rfl, ?_⟩) hHeld ?_ ?_
      rotate_left
      · rintro w' ⟨s0, s1, s2, s3, s4, s5, s6⟩
        go_simp
        with_reducible rfl
      rotate_left
      · simp only [Act.put, List.setIfInBounds_toArray, List.set_cons_zero, List.set_cons_succ, i64_w, i32_w]
        rfl
      refine pure_ (i := 16) (N := some 44) (v := ?_) (a' := ?_) #[true, true, true, true, true, true, true, true, true, true, true, true, true, true, true, true, true, false, false] rfl rfl (by kernel_rfl) (fun _ _ _ h => h) (Or.inl ⟨by rfl, ?_⟩) ?_ ?_
      rotate_left
      · intro w'
        go_simp
        with_reducible rfl
      rotate_left
      · simp only [Act.put, List.setIfInBounds_toArray, List.set_cons_zero, List.set_cons_succ, i64_w, i32_w]
        rfl
      refine pure_ (i := 17) (N := some 45) (v := ?_) (a' := ?_) #[true, true, true, true, true, true, true, true, true, true, true, true, true, true, true, true, true, true, false] rfl rfl (by kernel_rfl) (fun _ _ _ h => h) (Or.inl ⟨by rfl, ?_⟩) ?_ ?_
      rotate_left
      · intro w'
        go_simp
        with_reducible rfl
      rotate_left
      · simp only [Act.put, List.setIfInBounds_toArray, List.set_cons_zero, List.set_cons_succ, i64_w, i32_w]
        rfl
      refine last_ (i := 18) (N := none) #[true, true, true, true, true, true, true, true, true, true, true, true, true, true, true, true, true, true, true] rfl rfl (by kernel_rfl) (by decide) (fun K hK => ?_)
      refine skip_ (w1 := ?_) (by rfl) rfl ?_ ?_
      rotate_left
      · go_simp
        rfl
      refine hK.out _ _ ?_
      clear hK K
      refine done_ (by kernel_rfl) ?_

      obtain ⟨l, hl⟩ : ∃ l, ((parents.getD col []).take to_).drop at_ = l := ⟨_, rfl⟩
      have hll : l.length = to_ - at_ := by rw [← hl, List.length_drop, List.length_take]; omega
      have hlK : KS.K w0 l [.slice (some (ad5.add at_)) (to_ - at_) (c5 - at_)] := by
        obtain ⟨ad', e', hCs⟩ := C_sub HC5.out hlt hto
        obtain rfl := Option.some.inj e'
        rw [hl, ← hll, show at_ * Kd.string.sz = at_ from Nat.mul_one _] at hCs
        have := strs_K (c := c5 - at_) hCs (by omega)
        rwa [hll] at this
      have hL4 := (HL1.out.store line hline HLS.out HLK1.out (c := col) hlK).below ((Below.refl _ _).drew)
      obtain ⟨_, inner, hin, _⟩ := HR1.out
      have hK4 : LKeeps Ba w ((w.setCell ⟨g1, col, none⟩ (.slice (some (ad5.add at_)) (to_ - at_) (c5 - at_))).drew) := (LKeeps.set hin (.inr rfl)).trans (LKeeps.below ((Below.refl _ _).drew))
      have ha4 : ((w.setCell ⟨g1, col, none⟩ (.slice (some (ad5.add at_)) (to_ - at_) (c5 - at_))).drew).heap[Ba]? = some (.cells #[.int .i64 (at_ : Int)] 3 (0, 0)) := (heap_set_other (blk_ne HHA1.out hin (by decide)) _).trans HHA1.out
      have hb4 : Below B w ((w.setCell ⟨g1, col, none⟩ (.slice (some (ad5.add at_)) (to_ - at_) (c5 - at_))).drew) := (HBW1.out.setCell (p := ⟨g1, col, none⟩) hg1 _).drew
      obtain ⟨w4, hw4⟩ : ∃ w4, (w.setCell ⟨g1, col, none⟩ (.slice (some (ad5.add at_)) (to_ - at_) (c5 - at_))).drew = w4 := ⟨_, rfl⟩
      rw [hw4] at hL4 hK4 ha4 hb4 ⊢
      have ca4 : w4.cell? ⟨Ba, 0, none⟩ = some (.int .i64 (at_ : Int)) := cell_blk ha4 rfl
      have fa4 : w4.frozen? ⟨Ba, 0, none⟩ = false := frozen_of_row _ _ _ _ _ ha4
      have HL4 := Aside0.mk hL4
      have HK4 := Aside0.mk hK4
      have HA4 := Aside0.mk ha4
      have HB4 := Aside0.mk hb4
      have HLO : Aside0 (loseAt N col (parents.getD col []) lost to_ at_ line = fun q => if q = line then some (ls.set col l) else lost q) := ⟨by rw [loseAt, if_pos hlt, hl]; rw [HLS.out]; rfl⟩
      clear hL4 hK4 ha4 hb4 hw4 hl hll hlK hin cm1 cg2 cg0 cc1 ca1 cp1 hlook1 cv1 fv1
      go_wp2
      go_end0
      have hk5 : LKeeps Ba w4 (w4.setCell ⟨Ba, 0, none⟩ (.int .i64 ((to_ : Int) + 1))) := LKeeps.set HA4.out (.inl rfl)
      have hk6 : LKeeps Ba w (w4.setCell ⟨Ba, 0, none⟩ (.int .i64 ((to_ : Int) + 1))) := (HK1.out.trans HK4.out).trans hk5
      refine ⟨rfl, ⟨by rw [HLO.out]; exact MakerIn.keep H1.out H2.out H3.out H4.out hk6 HA.out ((HL4.out.set HA4.out (by decide) _))⟩, ⟨?_⟩, ⟨HB4.out.setCell (p := ⟨Ba, 0, none⟩) hBa _⟩, ⟨hk6⟩⟩
      rw [heap_set_same HA4.out]
      simp
  · have d1 : decide ((at_ : Int) < (to_ : Int)) = false := decide_eq_false (by omega)
    have d2 : decide (at_ < to_) = false := decide_eq_false (by omega)
    have HL : Aside0 (loseAt N col (parents.getD col []) lost to_ at_ line = lost) := ⟨if_neg hlt⟩
    rw [HL.out]
    go_enter Try.func74, Try.ntmps74
    go_wp2
    go_end0
    have hk : LKeeps Ba w (w.setCell ⟨Ba, 0, none⟩ (.int .i64 ((to_ : Int) + 1))) := LKeeps.set HA.out (.inl rfl)
    obtain ⟨vm, gm, vo, h1, h2, h3, h4, h5⟩ := HI.out
    refine ⟨rfl, ⟨MakerIn.keep h1 h2 h3 h4 hk HA.out ((h5.set HA.out (by decide) _).mono (by omega))⟩, ⟨?_⟩, ⟨(Below.refl _ _).setCell (p := ⟨Ba, 0, none⟩) hBa _⟩, ⟨hk⟩⟩
    rw [heap_set_same HA.out]
    simp
end Go.Proofs.Ytnlekganlliikaa.X
