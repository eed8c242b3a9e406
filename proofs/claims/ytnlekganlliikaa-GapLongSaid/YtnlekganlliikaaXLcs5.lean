/-
  sync.Once for a pair, and (*lcs.Pair).Len: by hand, as the kit's LazyParts and LazySlow do.
-/
import Derived.Test.YtnlekganlliikaaXLcs4
import Derived.Tactics2
import Derived.Defers
import Derived.Laws.Pointers
import Derived.Laws.LoneSync
import Derived.RegionTactic
import Derived.RegionCalls
import Derived.Laws.NewBlocks
namespace Go.Proofs.Ytnlekganlliikaa.X
open Go.RowKit Go.Proofs.YtnlekganlliikaaW.PrintWords Go.Proofs.YtnlekganlliikaaW.PrintLast Go.Proofs.YtnlekganlliikaaW.PrintMore
set_option linter.unusedVariables false
set_option linter.unusedSimpArgs false

theorem race_disable (w : World) : (callFunc 104 #[]).run Try.prog w = .ok (.value (.tuple #[])) w := run_call_mark0 Try.func104 (by kernel_rfl) (by kernel_rfl) (by kernel_rfl) .disable (by kernel_rfl) w
theorem race_enable (w : World) : (callFunc 106 #[]).run Try.prog w = .ok (.value (.tuple #[])) w := run_call_mark0 Try.func106 (by kernel_rfl) (by kernel_rfl) (by kernel_rfl) .enable (by kernel_rfl) w
theorem race_acquire (a : Addr) (w : World) : (callFunc 107 #[.pointer (some a)]).run Try.prog w = .ok (.value (.tuple #[])) w := run_call_marked Try.func107 (by kernel_rfl) (by kernel_rfl) (by kernel_rfl) .acquire (by kernel_rfl) a w
theorem race_releaseMerge (a : Addr) (w : World) : (callFunc 109 #[.pointer (some a)]).run Try.prog w = .ok (.value (.tuple #[])) w := run_call_marked Try.func109 (by kernel_rfl) (by kernel_rfl) (by kernel_rfl) .releaseMerge (by kernel_rfl) a w

theorem store_deferred (a : Addr) (x : Value) (u : FrameMode) (w : World) (hc : w.cell? a = some x) (hz : w.frozen? a = false) :
    CallsD Try.prog 90 #[.pointer (some a), .bool true] u w fun e u' w' => u' = u ∧ (e = .returned (.tuple #[]) ∧ w' = w.drew.setCell a (.int .u32 1)) := by
  have hc' : w.drew.cell? a = some x := by go_simp
  have hz' : w.drew.frozen? a = false := by go_simp
  have hst := run_call_store (P := Try.prog) Try.func98 (by kernel_rfl) (by kernel_rfl) (by kernel_rfl) (by kernel_rfl) (k := .u32) (y := 1) hc' hz'
  go_enter_d Try.func90, Try.ntmps90
  go_wp2
  go_region_calls
  all_goals (go_end0; exact ⟨rfl, rfl⟩)

set_option maxRecDepth 100000 in
theorem unlock_deferred (a : Addr) (u : FrameMode) (w : World) (hc : w.cell? a = some (.int .i32 1)) (hz : w.frozen? a = false) :
    CallsD Try.prog 89 #[.pointer (some a)] u w fun e u' w' => u' = u ∧ (e = .returned (.tuple #[]) ∧ w' = w.setCell a (.int .i32 0)) := by
  have hd := race_disable
  have he := race_enable
  have hr := race_releaseMerge
  have hadd := run_call_add (P := Try.prog) Try.func110 (by kernel_rfl) (by kernel_rfl) (by kernel_rfl) .i32 (by kernel_rfl) (y := -1) (s := 0) hc hz (by simp [go_sem]; rfl)
  have hcv := run_convert_to_unsafe (P := Try.prog) (src := 156) (dst := 132) Try.underlying156 Try.underlying132 (by kernel_rfl) hc
  go_enter_d Try.func89, Try.ntmps89
  go_wp2
  go_end0
  go_wp2
  go_end0
  exact ⟨rfl, rfl⟩

set_option maxRecDepth 100000 in
theorem lock_free (a : Addr) (w : World) (hc : w.cell? a = some (.int .i32 0)) (hz : w.frozen? a = false) :
    Calls Try.prog 88 #[.pointer (some a)] w fun e w' => e = .returned (.tuple #[]) ∧ w' = w.setCell a (.int .i32 1) := by
  have hd := race_disable
  have he := race_enable
  have ha := race_acquire
  have hcas := run_call_cas_hit (P := Try.prog) Try.func105 (by kernel_rfl) (by kernel_rfl) (by kernel_rfl) .i32 (by kernel_rfl) (y := 1) hc hz
  have hc' : (w.setCell a (.int .i32 1)).cell? a = some (.int .i32 1) := World.cell?_setCell_same w a _ hc
  have hcv := run_convert_to_unsafe (P := Try.prog) (src := 156) (dst := 132) Try.underlying156 Try.underlying132 (by kernel_rfl) hc'
  go_enter Try.func88, Try.ntmps88
  go_wp2
  first | go_end0 | (simp only [Exit.inBlock, Exit.then]; refine bodyPost_ret (results_none rfl _ _ _) rfl ?_) | refine bodyPost_ret (results_none rfl _ _ _) rfl ?_
  go_wp2
  go_end0
  exact ⟨rfl, rfl⟩

theorem bool_load (a : Addr) (d : Int) (w : World) (h0 : w.cell? a = some (.int .u32 d)) : Calls Try.prog 80 #[.pointer (some a)] w fun e w' => e = .returned (.bool (d != 0)) ∧ w' = w := by
  have hl := run_call_load (P := Try.prog) Try.func87 (by kernel_rfl) (by kernel_rfl) (by kernel_rfl) .u32 (by kernel_rfl) h0
  go_enter Try.func80, Try.ntmps80
  go_wp2
  go_ret
  exact ⟨rfl, rfl⟩

set_option maxRecDepth 100000 in
set_option maxHeartbeats 1600000 in
/-- sync.Once's slow road, not yet done, the lock free. -/
theorem once_slow (g : Nat) (Aa Ab : Option Addr) (ca cb : Nat) (a b : List Int) (w : World)
    (hg : w.heap[g]? = some (.cells (pairCells (.slice Aa a.length ca) (.slice Ab b.length cb) (.slice none 0 0) 0 0) 103 (0, 0)))
    (ha : Kd.F (Kd.int .i64) w (fun k => k ≠ g) Aa a.length a) (hb : Kd.F (Kd.int .i64) w (fun k => k ≠ g) Ab b.length b) (hla : a.length ≤ 2000) (hlb : b.length ≤ 2000) :
    Calls Try.prog 81 #[.pointer (some ⟨g, 2, none⟩), .func (.func 59) #[.pointer (some ⟨g, 0, none⟩)] #[]] w fun e w' => e = .returned (.tuple #[]) ∧
      (∃ gs : Nat, w.heap.size ≤ gs ∧ w'.heap[g]? = some (.cells (pairCells (.slice Aa a.length ca) (.slice Ab b.length cb) (.slice (some ⟨gs, 0, none⟩) (a.length * b.length) (a.length * b.length)) 1 (lcsL a b : Int)) 103 (0, 0)) ∧ NumsAt .u8 w' 5 gs (stepsOf a b)) ∧ w.grownBy w' (some g) := by
  have Hg := Aside0.mk hg
  have Ha := Aside0.mk ha
  have Hb := Aside0.mk hb
  have h2 : w.cell? ⟨g, 2, none⟩ = some (.int .u32 0) := cell_blk hg rfl
  have h3 : w.cell? ⟨g, 3, none⟩ = some (.int .i32 0) := cell_blk hg rfl
  have z3 : w.frozen? ⟨g, 3, none⟩ = false := blk_frozen hg _
  have HL : (w.setCell ⟨g, 3, none⟩ (.int .i32 1)).cell? ⟨g, 2, none⟩ = some (.int .u32 0) := (World.cell?_setCell_other _ ⟨g, 3, none⟩ ⟨g, 2, none⟩ _ (by simp)).trans h2
  have hnot : ∀ (x : Bool) (w : World), (Op.unary .not (.bool x)).run Try.prog w = .ok (.bool (!x)) w := fun _ _ => rfl
  clear hg ha hb
  go_enter_defers Try.func81, Try.ntmps81
  go_wp2_with (go_at_call 88; refine (lock_free ⟨g, 3, none⟩ _ (by go_simp) (by go_simp)).mono ?_; rintro e w' ⟨rfl, rfl⟩)
  refine (bool_load ⟨g, 2, none⟩ 0 _ HL).mono ?_
  rintro e w1 ⟨rfl, rfl⟩
  have hq : ((0 : Int) != 0) = false := rfl
  rw [hq]
  go_wp2_with fail
  refine (reckon_calls g 0 Aa Ab ca cb (.int .u32 0) (.int .i32 1) (.int .u32 0) a b _ (by rw [heap_set_same Hg.out]; rfl) (Kd.F_step Ha.out (fun k hk _ => heap_set_other hk _)) (Kd.F_step Hb.out (fun k hk _ => heap_set_other hk _)) hla hlb).mono ?_
  rintro e w1 ⟨rfl, ⟨gs, q1, q2, q3⟩, q4⟩
  have Q2 := Aside0.mk q2
  have Q3 := Aside0.mk q3
  have Q4 := Aside0.mk q4
  clear q2 q3 q4
  go_wp2_with fail
  go_wp2
  have f2 : w1.cell? ⟨g, 2, none⟩ = some (.int .u32 0) := cell_blk Q2.out rfl
  have fz2 : w1.frozen? ⟨g, 2, none⟩ = false := blk_frozen Q2.out _
  refine leaves_cons (f := 90) (args := #[.pointer (some ⟨g, 2, none⟩), .bool true]) (by simp) (by simp [go_sem]) ?_
  refine (store_deferred ⟨g, 2, none⟩ (.int .u32 0) .returning _ f2 fz2).mono ?_
  rintro e u' w'' ⟨rfl, rfl, rfl⟩
  refine leaves_cons (f := 89) (args := #[.pointer (some ⟨g, 3, none⟩)]) (by simp [settle]) (by simp [go_sem]) ?_
  have Q5 : (w1.drew.setCell ⟨g, 2, none⟩ (.int .u32 1)).heap[g]? = some (.cells (pairCells (.slice Aa a.length ca) (.slice Ab b.length cb) (.slice (some ⟨gs, 0, none⟩) (a.length * b.length) (a.length * b.length)) 1 (lcsL a b : Int) |>.set! 3 (.int .i32 1)) 103 (0, 0)) := by
    rw [heap_set_same (show w1.drew.heap[g]? = _ from Q2.out)]
    rfl
  refine (unlock_deferred ⟨g, 3, none⟩ _ _ (cell_blk Q5 rfl) (blk_frozen Q5 _)).mono ?_
  rintro e u' w'' ⟨rfl, rfl, rfl⟩
  refine ⟨.tuple #[], by simp [settle, results, Try.results81], rfl, ⟨gs, ?_, ?_, ?_⟩, ?_⟩
  · simpa using q1
  · rw [heap_set_same Q5]
    rfl
  · refine nums_other (nums_other ?_ ?_ _) ?_ _
    · exact Q3.out
    · have := blk_lt Hg.out; simp at q1; omega
    · have := blk_lt Hg.out; simp at q1; omega
  · exact grown_then (grown_set (World.grownBy.refl _ _) _ _) (grown_then Q4.out (grown_set (grown_set (grown_drewN (World.grownBy.refl _ _) 1) _ _) _ _))
end Go.Proofs.Ytnlekganlliikaa.X
