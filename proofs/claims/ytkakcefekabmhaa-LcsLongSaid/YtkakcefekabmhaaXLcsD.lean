/-
  sennitlaw03.LcsLong: by hand.
-/
import Derived.Test.YtkakcefekabmhaaXLcsB
namespace Go.Proofs.Ytkakcefekabmhaa.X
open Go.RowKit Go.Proofs.YtkakcefekabmhaaW.PrintWords Go.Proofs.YtkakcefekabmhaaW.PrintLast Go.Proofs.YtkakcefekabmhaaW.PrintMore
set_option linter.unusedVariables false
set_option linter.unusedSimpArgs false

theorem C_prefix {w : World} {g n : Nat} {t : TypeId} {xs : List Int} {k : IntKind} (h : w.heap[g]? = some (.cells (xs.map (Value.int k)).toArray t (0, 0))) (hn : n ≤ xs.length) (hm : n ≤ 9223372036854775807) : Kd.C (Kd.int k) w (some ⟨g, 0, none⟩) n (xs.take n) := by
  refine ⟨by rw [List.length_take]; omega, hm, fun _ => ⟨_, rfl, fun j p hp => ⟨[.int k p], rfl, rfl, fun i u hu => ?_⟩⟩⟩
  have hi : i = 0 := by
    have := (List.getElem?_eq_some_iff.1 hu).1
    simp at this
    exact this
  subst hi
  have hu' : Value.int k p = u := by simpa using hu
  have hj := (List.getElem?_eq_some_iff.1 hp).1
  rw [List.length_take] at hj
  rw [List.getElem?_take, if_pos (by omega)] at hp
  subst hu'
  show w.cell? ((⟨g, 0, none⟩ : Addr).add (j * 1 + 0)) = _
  rw [addr_add0, Nat.mul_one, Nat.add_zero]
  refine cell_blk h ?_
  simp [hp]

set_option maxRecDepth 100000 in
set_option maxHeartbeats 4000000 in
theorem law_LcsLong (W : World) (x0 : Int) (g0 : (Lit.int .u8 x0).wf = true) (A1 : Option Addr) (c1 : Nat) (l1 : List Int) (hr1 : Kd.C (Kd.int .i64) W A1 l1.length l1) (hc1 : l1.length ≤ c1) (g1 : l1.length * 8 ≤ 140737488351232 ∧ ∀ y ∈ l1, (Lit.int .i64 y).wf = true) :
    Calls Try.prog 9 #[.int .u8 x0, .slice A1 l1.length c1] W fun e w' => e = .returned (.bool true) ∧ Below W.heap.size W w' := by
  have HR1 := Aside0.mk hr1
  have HC1 := Aside0.mk hc1
  clear hr1 hc1 g1
  obtain ⟨m, rfl, hm⟩ : ∃ m : Nat, x0 = (m : Int) ∧ m < 256 := by
    have h := wf_u8 g0
    exact ⟨x0.toNat, by omega, by omega⟩
  clear g0
  obtain ⟨i0, hi0, hz0⟩ := Option.map_eq_some_iff.1 info3
  simp only [Prod.mk.injEq] at hz0
  obtain ⟨hz, hsz, hby⟩ := hz0
  have hmk : ∀ W : World, (Instr.makeSlice 22 (.int .i64 (2001 + (m : Int))) (.int .i64 (2001 + (m : Int)))).run Try.prog W = .ok (.slice (some ⟨W.heap.size, 0, none⟩) (2001 + m) (2001 + m)) (W.alloc (.cells (Array.replicate (2001 + m) (.int .i64 0)) 3)) := by
    intro W
    have h := run_make (P := Try.prog) W 22 3 i0 (.int .i64 0) Try.underlying22 hi0 hz .i64 .i64 (2001 + (m : Int)) (2001 + (m : Int)) (by omega) (by omega) (by rw [hby]; omega) (by omega)
    rw [h, hsz]
    have e : (2001 + (m : Int)).toNat = 2001 + m := by omega
    rw [e, show (Value.int IntKind.i64 0).cells = #[Value.int .i64 0] from rfl, madeCells_one, List.toArray_replicate]
  clear hi0 hz hsz hby i0
  have sw : wrap64 (2001 + (m : Int)) = 2001 + (m : Int) := w64 (by omega) (by omega)
  have sx : wrap64 (m : Int) = (m : Int) := w64 (by omega) (by omega)
  have sw' : IntKind.i64.wrap (2001 + (m : Int)) = 2001 + (m : Int) := IntWalk.i64_in _ (by omega)
  have sx' : IntKind.i64.wrap (m : Int) = (m : Int) := IntWalk.i64_in _ (by omega)
  go_enter Try.func9, Try.ntmps9
  go_wp2_with fail
  refine (awake_calls _).mono ?_
  rintro e w1 ⟨rfl, hb⟩
  have HB1 := Aside0.mk hb
  clear hb
  by_cases hl : l1.length ≤ 40
  · have b1 : decide ((40 : Int) < (l1.length : Int)) = false := decide_eq_false (by omega)
    have b2 : decide (40 < l1.length) = false := decide_eq_false (by omega)
    go_wp2_with fail
    have hN := lcs_New_long (some ⟨w1.heap.size, 0, none⟩) (2001 + m) (List.replicate (2001 + m) 0) A1 c1 l1 (w1.alloc (.cells (Array.replicate (2001 + m) (.int .i64 0)) 3)) (by rw [List.length_replicate]; omega) (by omega) (by rw [List.length_replicate]; omega)
    rw [List.length_replicate] at hN
    refine hN.mono ?_
    rintro e w2 ⟨rfl, he⟩
    obtain rfl := he.symm
    clear he hN
    go_wp2_with fail
    have hN := lcs_New_long A1 c1 l1 (some ⟨w1.heap.size, 0, none⟩) (2001 + m) (List.replicate (2001 + m) 0) (w1.alloc (.cells (Array.replicate (2001 + m) (.int .i64 0)) 3)) (by omega) (by rw [List.length_replicate]; omega) (by rw [List.length_replicate]; omega)
    rw [List.length_replicate] at hN
    refine hN.mono ?_
    rintro e w2 ⟨rfl, he⟩
    obtain rfl := he.symm
    clear he hN
    have HBk := Aside0.mk (blk_new w1 (.cells (Array.replicate (2001 + m) (.int .i64 0)) 3))
    go_wp2_with fail
    have hC : Kd.C (Kd.int .i64) (w1.alloc (.cells (Array.replicate (2001 + m) (.int .i64 0)) 3)) (some ⟨w1.heap.size, 0, none⟩) 2000 (List.replicate 2000 0) := by
      have h := C_prefix (n := 2000) (xs := List.replicate (2001 + m) 0) (by rw [List.map_replicate, List.toArray_replicate]; exact HBk.out) (by rw [List.length_replicate]; omega) (by omega)
      rwa [List.take_replicate, Nat.min_eq_left (by omega)] at h
    have hN := lcs_New_pair (some ⟨w1.heap.size, 0, none⟩) (2001 + m) (List.replicate 2000 0) none 0 [] (w1.alloc (.cells (Array.replicate (2001 + m) (.int .i64 0)) 3)) (by rw [List.length_replicate]; exact hC) (by rw [List.length_replicate]; omega) (Kd.C_nil _ _) (by simp) (by rw [List.length_replicate]; omega) (by simp)
    rw [List.length_replicate] at hN
    refine hN.mono ?_
    rintro e w2 ⟨g, d, rfl, HG, HP, HB2⟩
    have HB3 : Aside0 (Below w1.heap.size w1 w2) := ⟨(below_alloc (Below.refl _ _) _).trans (HB2.out.mono (by simp))⟩
    have HG3 : Aside0 (W.heap.size ≤ g) := ⟨by have := HG.out; have := HB1.out.size; simp at *; omega⟩
    clear hN hC HB2 HG
    go_wp2_with fail
    refine (pair_Len g _ _ d _ HP.out).mono ?_
    rintro e w3 ⟨rfl, hp3, hg3⟩
    have HP3 := Aside0.mk hp3
    have HB4 : Aside0 (Below W.heap.size W w3) := ⟨below_grown (below_far HB1.out HB3.out) hg3 HG3.out (below_far HB1.out HB3.out).size⟩
    clear hp3 hg3
    rw [lcsL_nil_right]
    go_wp2_with fail
    refine (pair_Match g _ _ 1 _ HP3.out).mono ?_
    rintro e w4 ⟨vm, rfl, ho, hp4, hg4⟩
    obtain ⟨Am, cm, rfl⟩ := Kd.R_slice ho
    have HB5 : Aside0 (Below W.heap.size W w4) := ⟨below_grown HB4.out hg4 HG3.out HB4.out.size⟩
    rw [show (matchOf (List.replicate 2000 0) []).length = 2000 from by rw [show (matchOf (List.replicate 2000 0) []).length = (List.replicate 2000 (0 : Int)).length from matchFrom_length _ _ _, List.length_replicate]]
    clear ho hp4 hg4
    go_wp2_with fail
    refine (pair_Len_nil _).mono ?_
    rintro e w5 ⟨rfl, he⟩
    obtain rfl := he.symm
    clear he
    go_wp2_with fail
    refine (pair_Match_nil _).mono ?_
    rintro e w5 ⟨rfl, he⟩
    obtain rfl := he.symm
    clear he
    go_wp2
    go_ret
    exact ⟨rfl, HB5.out⟩
  · have b1 : decide ((40 : Int) < (l1.length : Int)) = true := decide_eq_true (by omega)
    have b2 : decide (40 < l1.length) = true := decide_eq_true (by omega)
    go_wp2
    go_ret
    exact ⟨rfl, HB1.out⟩
end Go.Proofs.Ytkakcefekabmhaa.X
