/-
  lcs.New: by hand. What a pair is in memory.
-/
import Derived.Test.YtnlekganlliikaaXLcs1
import Derived.Test.YtnlekganlliikaaXLcsMath
namespace Go.Proofs.Ytnlekganlliikaa.X
open Go.RowKit Go.Proofs.YtnlekganlliikaaW.PrintWords Go.Proofs.YtnlekganlliikaaW.PrintLast Go.Proofs.YtnlekganlliikaaW.PrintMore
set_option linter.unusedVariables false
set_option linter.unusedSimpArgs false

/-- A pair's block: the lists, the Once (done, its lock), the steps, how many. -/
def pairCells (sa sb st : Value) (d long : Int) : Array Value := #[sa, sb, .int .u32 d, .int .i32 0, .int .u32 0, st, .int .i64 long]
/-- g is the block of a pair of the lists a and b, made since base; reckoned or not. -/
def IsPair (W : World) (base g : Nat) (a b : List Int) : Prop :=
  base ≤ g ∧ ∃ sa sb st d long, W.heap[g]? = some (.cells (pairCells sa sb st d long) 103 (0, 0)) ∧ Kd.R (Kd.int .i64) 3 W base (fun k => k ≠ g) sa a ∧ Kd.R (Kd.int .i64) 3 W base (fun k => k ≠ g) sb b ∧ a.length ≤ 2000 ∧ b.length ≤ 2000 ∧
    ((d = 0 ∧ st = .slice none 0 0 ∧ long = 0) ∨ (d = 1 ∧ Kd.R (Kd.int .u8) 5 W base (fun k => k ≠ g) st (stepsOf a b) ∧ long = lcsL a b))

set_option maxHeartbeats 4000000 in
set_option maxRecDepth 100000 in
theorem lcs_New_long (A0 : Option Addr) (c0 : Nat) (l0 : List Int) (A1 : Option Addr) (c1 : Nat) (l1 : List Int) (w : World) (h0 : l0.length ≤ 9223372036854775807) (h1 : l1.length ≤ 9223372036854775807) (hl : 2000 < l0.length ∨ 2000 < l1.length) :
    Calls Try.prog 31 #[.slice A0 l0.length c0, .slice A1 l1.length c1] w fun e w' => e = .returned (.tuple #[.pointer none, .int .i64 4]) ∧ w' = w := by
  by_cases h : 2000 < l0.length
  · have c1 : decide ((2000 : Int) < (l0.length : Int)) = true := decide_eq_true (by omega)
    have c2 : decide (2000 < l0.length) = true := decide_eq_true h
    clear hl h
    go_enter Try.func31, Try.ntmps31
    go_wp2
    go_ret2
    exact ⟨rfl, rfl⟩
  · have c1 : decide ((2000 : Int) < (l0.length : Int)) = false := decide_eq_false (by omega)
    have c2 : decide (2000 < l0.length) = false := decide_eq_false h
    have c3 : decide ((2000 : Int) < (l1.length : Int)) = true := decide_eq_true (by omega)
    have c4 : decide (2000 < l1.length) = true := decide_eq_true (by omega)
    clear hl h
    go_enter Try.func31, Try.ntmps31
    go_wp2
    go_ret2
    exact ⟨rfl, rfl⟩

set_option maxHeartbeats 4000000 in
set_option maxRecDepth 100000 in
theorem lcs_New_ok (A0 : Option Addr) (c0 : Nat) (l0 : List Int) (A1 : Option Addr) (c1 : Nat) (l1 : List Int) (w : World) (hr0 : Kd.C (Kd.int .i64) w A0 l0.length l0) (hc0 : l0.length ≤ c0) (hr1 : Kd.C (Kd.int .i64) w A1 l1.length l1) (hc1 : l1.length ≤ c1) (h0 : l0.length ≤ 2000) (h1 : l1.length ≤ 2000) :
    Calls Try.prog 31 #[.slice A0 l0.length c0, .slice A1 l1.length c1] w fun e w' => ∃ g : Nat, e = .returned (.tuple #[.pointer (some ⟨g, 0, none⟩), .int .i64 0]) ∧ IsPair w' w.heap.size g l0 l1 ∧ Below w.heap.size w w' := by
  have HR0 := Aside0.mk hr0
  have HC0 := Aside0.mk hc0
  have HR1 := Aside0.mk hr1
  have HC1 := Aside0.mk hc1
  clear hr0 hc0 hr1 hc1
  have d1 : decide ((2000 : Int) < (l0.length : Int)) = false := decide_eq_false (by omega)
  have d2 : decide (2000 < l0.length) = false := decide_eq_false (by omega)
  have d3 : decide ((2000 : Int) < (l1.length : Int)) = false := decide_eq_false (by omega)
  have d4 : decide (2000 < l1.length) = false := decide_eq_false (by omega)
  go_enter Try.func31, Try.ntmps31
  go_wp2_with fail
  refine (slices_Clone_int.calls A0 c0 l0 _ HR0.out HC0.out (by omega)).mono ?_
  rintro e w1 ⟨v1, rfl, ho1, hb1⟩
  obtain ⟨Av1, cv1, rfl⟩ := Kd.R_slice ho1
  have HO1 := Aside0.mk ho1
  have HB1 := Aside0.mk hb1
  clear ho1 hb1
  go_wp2_with fail
  refine (slices_Clone_int.calls A1 c1 l1 _ (Kd.C_below HR1.out HB1.out) HC1.out (by omega)).mono ?_
  rintro e w2 ⟨v2, rfl, ho2, hb2⟩
  obtain ⟨Av2, cv2, rfl⟩ := Kd.R_slice ho2
  have HO2 := Aside0.mk ho2
  have HB2 := Aside0.mk hb2
  clear ho2 hb2
  go_wp2
  go_ret2
  have hB : Below w.heap.size w w2 := below_step HB1.out HB2.out
  have ho1 := Kd.R_mono (Kd.R_bound (Kd.R_below HO1.out HB2.out)) (ok' := fun k => k ≠ w2.heap.size) (fun k hk => by have := hk.2.2.1; omega)
  have ho2 := Kd.R_mono (Kd.R_bound (Kd.R_lower HO2.out HB1.out.size)) (ok' := fun k => k ≠ w2.heap.size) (fun k hk => by have := hk.2.2.1; omega)
  refine ⟨w2.heap.size, rfl, ⟨hB.size, _, _, _, _, _, blk_new _ _, Kd.R_alloc ho1 _, Kd.R_alloc ho2 _, h0, h1, .inl ⟨rfl, rfl, rfl⟩⟩, below_alloc hB _⟩
end Go.Proofs.Ytnlekganlliikaa.X
