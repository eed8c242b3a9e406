/-
  Parts of one proof, one behind the other: XQn2, XKit, XHeld, XInternMath, XLcsMath, XBuild, XGives, XConcat, XRef02, XLcs1, XLcs2, XGap1, XGap2, XGapMath, XPairMath, XGapLaw, XOpen, XIntern1, XIntern2.
-/
import Derived.Test.YtnlekganlliikaaBTableTells5
import Derived.Shelf.Strings.Builder1
import Derived.IntWalk
import Derived.Lib.Strings
import Derived.Lib.SliceRun
import Derived.Lib.Hide
import Derived.Outline
import Derived.Shelf.SlicesQ.Load
import Derived.Deep.WholeRow
import Derived.Deep.MidRow
import Derived.Deep.Slices
import Derived.OpenShut
import Derived.ProofKit
import Derived.SizedLaws
import Derived.Lib.SmallJoins
import Derived.Maps.Own
import Derived.Maps.OwnSet
import Derived.Maps.OwnOps
import Derived.OwnWalk
import Derived.RangeFuncRecord
import Derived.Laws.LoneSync
-- part XQn2
namespace Go.Proofs.Ytnlekganlliikaa.X
open Go.RowKit Go.Proofs.YtnlekganlliikaaW.PrintWords Go.Proofs.YtnlekganlliikaaW.PrintLast Go.Proofs.YtnlekganlliikaaW.PrintMore
attribute [local go_sem] max2_int min2_int max_two min_two max_three min_three max_four min_four   -- for this text's walks alone
set_option linter.unusedVariables false
set_option linter.unusedSimpArgs false
mutual
def sennitref20_Table.l0 : Nat → List ByteArray → List (List ByteArray) → List (List Int) → List (List Int) → Int → Option ((List (S37)) × Int)
  | 0, _, _, _, _, _ => none
  | k + 1, x0, x1, x8, x9, x10 => if x10 < (x1.length : Int) then (if 0 < (x8.length : Int) then (if 0 ≤ (wrap64 (x10 + 1)) then (if (wrap64 (x10 + 1)) < (x8.length : Int) then ((sennitref03_Match.f k (rd_L7 x8 0) (rd_L7 x8 (wrap64 (x10 + 1)))).bind fun t134 => (if x9.length < 5864062014805 then (sennitref20_Table.l0 k x0 x1 x8 (x9 ++ [t134]) (wrap64 (x10 + 1))) else (none))) else (none)) else (none)) else (none)) else (sennitref20_Table.l1 k x0 x1 x9 ([] : List (S37)) 0)
def sennitref20_Table.l1 : Nat → List ByteArray → List (List ByteArray) → List (List Int) → List (S37) → Int → Option ((List (S37)) × Int)
  | 0, _, _, _, _, _ => none
  | k + 1, x0, x1, x9, x11, x12 => if x12 ≤ (x0.length : Int) then ((sennitref20_ahead.f k x1 x9 x12).bind fun bt140 => (if bt140.2 = 0 then (if x11.length + bt140.1.length < 4398046511104 then ((some (x11 ++ bt140.1 : List (S37))).bind fun y144 => (if x12 = (x0.length : Int) then (some (y144, 0)) else (sennitref20_Table.l2 k x0 x1 x9 y144 x12 (⟨#[]⟩ : ByteArray) 0))) else (none)) else (some (([] : List (S37)), bt140.2)))) else (some (x11, 0))
def sennitref20_Table.l2 : Nat → List ByteArray → List (List ByteArray) → List (List Int) → List (S37) → Int → ByteArray → Int → Option ((List (S37)) × Int)
  | 0, _, _, _, _, _, _, _ => none
  | k + 1, x0, x1, x9, x11, x12, x15, x16 => if x16 < (x1.length : Int) then (if 0 ≤ x16 then (if x16 < (x9.length : Int) then (if 0 ≤ x12 then (if x12 < ((rd_L7 x9 x16).length : Int) then (if (rd (rd_L7 x9 x16) x12) ≥ 0 then (if x15.size + 1 ≤ 9223372036854775807 then (sennitref20_Table.l2 k x0 x1 x9 x11 x12 (x15 ++ (⟨#[32]⟩ : ByteArray)) (wrap64 (x16 + 1))) else (none)) else (if x15.size + 1 ≤ 9223372036854775807 then (sennitref20_Table.l2 k x0 x1 x9 x11 x12 (x15 ++ (⟨#[43]⟩ : ByteArray)) (wrap64 (x16 + 1))) else (none))) else (none)) else (none)) else (none)) else (none)) else (if 0 ≤ x12 then (if x12 < (x0.length : Int) then (if x11.length < 4398046511104 then (sennitref20_Table.l1 k x0 x1 x9 (x11 ++ [(⟨x15, rdOf ByteArray.empty x0 x12⟩ : S37)]) (wrap64 (x12 + 1))) else (none)) else (none)) else (none))
end
def sennitref20_Table.f (k : Nat) (l0 : List ByteArray) (l1 : List (List ByteArray)) : Option ((List (S37)) × Int) := (sennitref20_wrong.f k l0 l1).bind fun t122 => (if t122 = 0 then ((some (([l0] : List (List ByteArray)) : List (List ByteArray))).bind fun y123 => (if y123.length + l1.length < 5864062014805 then ((sennitref02_All.f k (y123 ++ l1)).bind fun t129 => (sennitref20_Table.l0 k l0 l1 t129 ([] : List (List Int)) 0)) else (none))) else (some (([] : List (S37)), t122)))
def sennitref20_Table.T11 : Bool × List (List Nat × List Nat) := (true, [([], []), ([], []), ([1], [1]), ([2], [2]), ([], []), ([], []), ([5], [5]), ([4, 6], [4, 6]), ([7], [7]), ([3, 8], [3, 8]), ([9], [9]), ([0, 10, 9], [0, 10]), ([11, 11, 0, 1, 2, 3, 4, 5, 6, 7, 8, 9, 10, 11], [0, 11])])
def sennitref20_Table.B11 : List Nat := [0, 0, 2, 6, 0, 0, 32, 112, 240, 510, 1022, 2047, 4095]
theorem sennitref20_Table.tab11 : rtab .any (opsOf Try.f26 11) = sennitref20_Table.T11 := by kernel_rfl
theorem sennitref20_Table.bits11 : waitsOk sennitref20_Table.T11.2 sennitref20_Table.B11 = true := by kernel_rfl
set_option maxHeartbeats 8000000 in
set_option maxRecDepth 100000 in
theorem sennitref20_Table.calls (k : Nat) (P0_ : Nat → Prop) (A0 : Option Addr) (c0 : Nat) (l0 : List ByteArray) (P1_ : Nat → Prop) (A1 : Option Addr) (c1 : Nat) (l1 : List (List ByteArray)) (r1 : List (S37)) (r2 : Int) (w : World) (hs0 : Kd.V Kd.string 9 w w.heap.size (fun k_ => P0_ k_) (.slice A0 l0.length c0) l0) (hs1 : Kd.V (Kd.slice 9 Kd.string) 34 w w.heap.size (fun k_ => P1_ k_) (.slice A1 l1.length c1) l1) (h : sennitref20_Table.f k l0 l1 = some (r1, r2)) :
    Calls Try.prog 26 #[.slice A0 l0.length c0, .slice A1 l1.length c1] w fun e w' => ∃ v0_ : Value, e = .returned (.tuple #[v0_, .int .i64 r2]) ∧ Kd.R k37 37 w' w.heap.size (fun k_ => (w.heap.size ≤ k_)) v0_ r1 ∧ Below w.heap.size w w' := by
  have hu37 := Try.underlying37
  have HO0 := Aside0.mk (show Kd.V Kd.string 9 w w.heap.size (fun k_ => ((P0_ k_ ∨ P1_ k_) ∨ w.heap.size ≤ k_)) (.slice A0 l0.length c0) l0 from Kd.V_mono hs0 (fun k_ hk => .inl (.inl hk)))
  have HO1 := Aside0.mk (show Kd.V (Kd.slice 9 Kd.string) 34 w w.heap.size (fun k_ => ((P0_ k_ ∨ P1_ k_) ∨ w.heap.size ≤ k_)) (.slice A1 l1.length c1) l1 from Kd.V_mono hs1 (fun k_ hk => .inl (.inr hk)))
  have HB := Aside0.mk (Below.refl w.heap.size w)
  have H : ((sennitref20_wrong.f k l0 l1).bind fun t122 => (if t122 = 0 then ((some (([l0] : List (List ByteArray)) : List (List ByteArray))).bind fun y123 => (if y123.length + l1.length < 5864062014805 then ((sennitref02_All.f k (y123 ++ l1)).bind fun t129 => (sennitref20_Table.l0 k l0 l1 t129 ([] : List (List Int)) 0)) else (none))) else (some (([] : List (S37)), t122)))) = some (r1, r2) := h
  clear h
  replace H := Option.bind_eq_some_iff.mp H
  obtain ⟨t122, A30, H⟩ := H
  replace H : (if t122 = 0 then ((some (([l0] : List (List ByteArray)) : List (List ByteArray))).bind fun y123 => (if y123.length + l1.length < 5864062014805 then ((sennitref02_All.f k (y123 ++ l1)).bind fun t129 => (sennitref20_Table.l0 k l0 l1 t129 ([] : List (List Int)) 0)) else (none))) else (some (([] : List (S37)), t122))) = some (r1, r2) := H
  have A3 := Aside0.mk A30
  clear A30
  by_cases c4 : t122 = 0
  · rw [if_pos c4] at H
    have c4b0 : (t122 == 0) = true := beq_iff_eq.mpr c4
    have c4b1 : (t122 != 0) = false := bne_eq_false_iff_eq.mpr c4
    clear c4
    obtain ⟨y123, hy123⟩ : ∃ y_ : List (List ByteArray), y_ = (([l0] : List (List ByteArray))) := ⟨_, rfl⟩
    replace H : (if y123.length + l1.length < 5864062014805 then ((sennitref02_All.f k (y123 ++ l1)).bind fun t129 => (sennitref20_Table.l0 k l0 l1 t129 ([] : List (List Int)) 0)) else (none)) = some (r1, r2) := by first | (rw [hy123]; with_reducible exact H) | (have H2_ := (Option.bind_some _ _).symm.trans H; rw [hy123]; with_reducible exact H2_) | (have H2_ := (Option.bind_some _ _).symm.trans H; with_reducible exact H2_) | with_reducible exact H | (rw [hy123]; exact H) | exact H
    have Ny123 := Aside0.mk hy123
    clear hy123
    by_cases c5 : y123.length + l1.length < 5864062014805
    · rw [if_pos c5] at H
      have LMc5 := Aside0.mk c5
      clear c5
      obtain ⟨y126, hy126⟩ : ∃ y_ : List (List ByteArray), y_ = (y123 ++ l1) := ⟨_, rfl⟩
      replace H : ((sennitref02_All.f k y126).bind fun t129 => (sennitref20_Table.l0 k l0 l1 t129 ([] : List (List Int)) 0)) = some (r1, r2) := by first | (rw [hy126]; with_reducible exact H) | (have H2_ := (Option.bind_some _ _).symm.trans H; rw [hy126]; with_reducible exact H2_) | (have H2_ := (Option.bind_some _ _).symm.trans H; with_reducible exact H2_) | with_reducible exact H | (rw [hy126]; exact H) | exact H
      have Ny126 := Aside0.mk hy126
      clear hy126
      replace H := Option.bind_eq_some_iff.mp H
      obtain ⟨t129, A60, H⟩ := H
      replace H : (sennitref20_Table.l0 k l0 l1 t129 ([] : List (List Int)) 0) = some (r1, r2) := H
      have A6 := Aside0.mk A60
      clear A60
      have H' := Aside0.mk H
      clear H
      go_enter Try.func26, Try.ntmps26
      go_wp2_with (first | ((with_reducible refine gate_callee (f := 47) rfl ?_); refine goesL_ (some 19) rfl rfl Try.func47 (by kernel_rfl) rfl #[.slice A0 l0.length c0, .slice A1 l1.length c1] rfl (by (try simp only [List.map_toArray, List.map_cons, List.map_nil]); first | done | rfl | (simp only [List.length_drop, List.length_take]; rfl)) ?_; (with_reducible refine (sennitref20_wrong.calls k _ _ l0 _ _ l1 t122 _ ?side1 ?side2 ?side3 ?side4 A3.out).mono ?_); (case side1 => repeat (first | exact (Kd.V_reads' HO0.out).2.2 | (with_reducible refine Kd.C_alloc ?_ _) | (with_reducible refine Kd.C_drewN ?_ _) | (with_reducible refine Kd.C_drew ?_))); (case side2 => exact (Kd.V_reads' HO0.out).2.1); (case side3 => repeat (first | exact (Kd.V_reads' HO1.out).2.2 | (with_reducible refine Kd.C_alloc ?_ _) | (with_reducible refine Kd.C_drewN ?_ _) | (with_reducible refine Kd.C_drew ?_))); (case side4 => exact (Kd.V_reads' HO1.out).2.1); rintro e w' ⟨rfl, ⟨nd, rfl⟩⟩; refine ⟨_, rfl, ?_⟩) | ((with_reducible refine gate_dst (N := 24) rfl ?_); refine Kd.N_lit (Kd.slice 9 Kd.string) _ 34 ?hg (N' := 24) ?hd (xs := ([l0] : List (List ByteArray))) (inner := [.slice A0 l0.length c0]) (ok := (fun k_ => ((P0_ k_ ∨ P1_ k_) ∨ w.heap.size ≤ k_))) (okp := (fun k_ => ((P0_ k_ ∨ P1_ k_) ∨ w.heap.size ≤ k_))) ?hr ?hp (fun _ hk => hk) ((show ∀ k_, w.heap.size ≤ k_ → (fun k_ => ((P0_ k_ ∨ P1_ k_) ∨ w.heap.size ≤ k_)) k_ from fun k_ hk => (.inr (Nat.le_trans (below_size (by repeat (first | (with_reducible first | exact HB.out | apply below_alloc | apply pw_below_drewN | apply below_drew1) | exact HB.out))) hk))) _ (Nat.le_refl _)) (Below.refl _ _) (Nat.le_refl _) (by simp) ?_; (case hd => rfl); (case hg => rfl); (case hr => first | (go_simp; done) | (go_simp; rfl)); (case hp => first | exact (Reps.one (show Kd.FK (Kd.slice 9 Kd.string) _ _ l0 [.slice A0 l0.length c0] from (Kd.FK_slice_mk (Kd.V_reads' (Kd.V_mono (ok' := (fun k_ => ((P0_ k_ ∨ P1_ k_) ∨ w.heap.size ≤ k_))) (HO0.out) (fun k_ hk => hk))).2.1 (Kd.V_F (Kd.V_mono (ok' := (fun k_ => ((P0_ k_ ∨ P1_ k_) ∨ w.heap.size ≤ k_))) (HO0.out) (fun k_ hk => hk))))) (Reps.none _ _)) | exact (Reps.one (show Kd.FK (Kd.slice 9 Kd.string) _ _ l0 [.slice A0 l0.length c0] from (Kd.FK_slice_mk (Kd.V_reads' (Kd.V_mono (ok' := (fun k_ => ((P0_ k_ ∨ P1_ k_) ∨ w.heap.size ≤ k_))) (HO0.out) (fun k_ hk => hk))).2.1 (Kd.V_F (Kd.V_mono (ok' := (fun k_ => ((P0_ k_ ∨ P1_ k_) ∨ w.heap.size ≤ k_))) (Kd.V_drewN HO0.out _) (fun k_ hk => hk))))) (Reps.none _ _))); intro v124 w7 ho8 hb hg_ hnew_; clear hg_ hnew_; (first | rw [← Ny123.out] at ho8 | (simp only [Int.reduceToNat] at ho8; rw [← Ny123.out] at ho8)); have n0_ := Aside0.mk (Kd.V_elder' (by (with_reducible repeat (first | apply Kd.V_alloc | apply Kd.V_drewN | apply Kd.V_drew)); exact HO0.out) (Kd.N_base ho8) hb); have n1_ := Aside0.mk (Kd.V_elder' (by (with_reducible repeat (first | apply Kd.V_alloc | apply Kd.V_drewN | apply Kd.V_drew)); exact HO1.out) (Kd.N_base ho8) hb); have n2_ := Aside0.mk (Kd.N_lower ho8 (below_size (by repeat (first | (with_reducible first | exact HB.out | apply below_alloc | apply pw_below_drewN | apply below_drew1) | exact HB.out)))); have n3_ := Aside0.mk (below_step (by repeat (first | (with_reducible first | exact HB.out | apply below_alloc | apply pw_below_drewN | apply below_drew1) | exact HB.out)) hb); clear HO0; clear HO1; clear HB; have HO0 := n0_; have HO1 := n1_; have HO125 := n2_; have HB := n3_; clear n0_ n1_ n2_ n3_; clear hb ho8) | ((with_reducible refine gate_builtin (b := .append) (xs := #[.tmp 25, .tmp 26]) rfl ?_); at_builtin; refine Kd.N_append_rows (Kd.slice 9 Kd.string) (w0 := w) w.heap.size rfl (.tmp 25) (.tmp 26) 22 34 (.slice none 0 0) 24 rfl Try.underlying22 info34 rfl (by decide) (by omega) v124 y123 l1 _ _ _ (fun k_ => ((P0_ k_ ∨ P1_ k_) ∨ w.heap.size ≤ k_)) (fun k_ => ((fun k_ => ((P0_ k_ ∨ P1_ k_) ∨ w.heap.size ≤ k_))) k_ ∧ some k_ ≠ (v124 : Value).ownBlock) rfl rfl ?aO ?aR (fun _ hk => hk) ?aF ?aB ?aS ?aL ?_; (case aR => exact (by skip; exact Kd.V_F (Kd.V_mono (ok' := (fun k_ => ((fun k_ => ((P0_ k_ ∨ P1_ k_) ∨ w.heap.size ≤ k_))) k_ ∧ some k_ ≠ (v124 : Value).ownBlock)) (HO1.out) (fun k_ hk => ⟨hk.1, hk.2⟩)))); (case aB => exact (by repeat (first | (with_reducible first | exact HB.out | apply below_alloc | apply pw_below_drewN | apply below_drew1) | exact HB.out))); (case aF => exact (fun k_ hk => (.inr (Nat.le_trans (below_size (by repeat (first | (with_reducible first | exact HB.out | apply below_alloc | apply pw_below_drewN | apply below_drew1) | exact HB.out))) hk)))); (case aO => exact (by (with_reducible repeat (first | apply Kd.N_alloc | apply Kd.N_drewN | apply Kd.N_drew)); exact HO125.out)); (case aS => exact (below_size (by repeat (first | (with_reducible first | exact HB.out | apply below_alloc | apply pw_below_drewN | apply below_drew1) | exact HB.out)))); (case aL => have := LMc5.out; omega); intro v127 w9 ho hb hg hat; rw [← Ny126.out] at ho; have n0_ := Aside0.mk (Kd.V_afterv (ok := (fun k_ => ((P0_ k_ ∨ P1_ k_) ∨ w.heap.size ≤ k_))) (by (with_reducible repeat (first | apply Kd.V_alloc | apply Kd.V_drewN | apply Kd.V_drew)); exact HO0.out) hg hat); have n1_ := Aside0.mk (Kd.V_afterv (ok := (fun k_ => ((P0_ k_ ∨ P1_ k_) ∨ w.heap.size ≤ k_))) (by (with_reducible repeat (first | apply Kd.V_alloc | apply Kd.V_drewN | apply Kd.V_drew)); exact HO1.out) hg hat); have n2_ := Aside0.mk (hb); have n3_ := Aside0.mk (ho); clear HO0; clear HO1; clear HB; clear HO125; have HO0 := n0_; have HO1 := n1_; have HB := n2_; have HO128 := n3_; clear n0_ n1_ n2_ n3_; clear ho hb hg hat; obtain ⟨Ao10, co10, eo10⟩ := Kd.N_slice HO128.out; subst eo10) | ((with_reducible refine gate_callee (f := 48) rfl ?_); refine goesL_ (some 29) rfl rfl Try.func48 (by kernel_rfl) rfl #[.slice Ao10 y126.length co10] rfl (by (try simp only [List.map_toArray, List.map_cons, List.map_nil]); first | done | rfl | (simp only [List.length_drop, List.length_take]; rfl)) ?_; (with_reducible refine (sennitref02_All.calls k _ _ y126 t129 _ ?side1 ?side2 A6.out).mono ?_); (case side1 => repeat (first | exact (Kd.N_reads' HO128.out).2.2 | (with_reducible refine Kd.C_alloc ?_ _) | (with_reducible refine Kd.C_drewN ?_ _) | (with_reducible refine Kd.C_drew ?_))); (case side2 => exact (Kd.N_reads' HO128.out).2.1); rintro e w11 ⟨v130, rfl, ho0, hb⟩; refine ⟨_, rfl, ?_⟩; have n0_ := Aside0.mk (Kd.V_elder' (by (with_reducible repeat (first | apply Kd.V_alloc | apply Kd.V_drewN | apply Kd.V_drew)); exact HO0.out) (Kd.N_base (Kd.S_N ho0)) hb); have n1_ := Aside0.mk (Kd.V_elder' (by (with_reducible repeat (first | apply Kd.V_alloc | apply Kd.V_drewN | apply Kd.V_drew)); exact HO1.out) (Kd.N_base (Kd.S_N ho0)) hb); have n2_ := Aside0.mk (Kd.N_elder' (by (with_reducible repeat (first | apply Kd.N_alloc | apply Kd.N_drewN | apply Kd.N_drew)); exact HO128.out) (Kd.N_base (Kd.S_N ho0)) hb); have n3_ := Aside0.mk (Kd.N_lower (Kd.N_mono (ok' := fun k_ => ((P0_ k_ ∨ P1_ k_) ∨ w.heap.size ≤ k_) ∧ some k_ ≠ (.slice Ao10 y126.length co10 : Value).ownBlock) (Kd.S_N (Kd.S_bound ho0)) (fun k_ hk_ => ⟨(.inr (Nat.le_trans (below_size (by repeat (first | (with_reducible first | exact HB.out | apply below_alloc | apply pw_below_drewN | apply below_drew1) | exact HB.out))) hk_.2.1)), (Kd.fresh' (Kd.N_lt (by (with_reducible repeat (first | apply Kd.N_alloc | apply Kd.N_drewN | apply Kd.N_drew)); exact HO128.out)) k_ hk_.2.1)⟩)) (below_size (by repeat (first | (with_reducible first | exact HB.out | apply below_alloc | apply pw_below_drewN | apply below_drew1) | exact HB.out)))); have n4_ := Aside0.mk (below_step (by repeat (first | (with_reducible first | exact HB.out | apply below_alloc | apply pw_below_drewN | apply below_drew1) | exact HB.out)) hb); clear HO0; clear HO1; clear HO128; clear HB; have HO0 := n0_; have HO1 := n1_; have HO128 := n2_; have HO131 := n3_; have HB := n4_; clear n0_ n1_ n2_ n3_ n4_; (try clear hb); (try clear hb2); (try clear hk); (try clear hi); (try clear ho0)))
      go_loopg [9, 10] k (fun kq v9 v10 w' => ∃ (x9_1 : List (List Int)) (x10_1 : Int), v10 = .int .i64 x10_1 ∧ Aside0 (sennitref20_Table.l0 kq l0 l1 t129 x9_1 x10_1 = some (r1, r2)) ∧ Aside0 (kq ≤ k) ∧ Aside0 (Kd.V Kd.string 9 w' w.heap.size (fun k_ => ((P0_ k_ ∨ P1_ k_) ∨ w.heap.size ≤ k_) ∧ some k_ ≠ (v130 : Value).ownBlock ∧ some k_ ≠ (v9 : Value).ownBlock) (.slice A0 l0.length c0) l0) ∧ Aside0 (Kd.V (Kd.slice 9 Kd.string) 34 w' w.heap.size (fun k_ => ((P0_ k_ ∨ P1_ k_) ∨ w.heap.size ≤ k_) ∧ some k_ ≠ (v130 : Value).ownBlock ∧ some k_ ≠ (v9 : Value).ownBlock) (.slice A1 l1.length c1) l1) ∧ Aside0 (Kd.N (Kd.slice 3 (Kd.int .i64)) 49 w' w.heap.size (fun k_ => ((P0_ k_ ∨ P1_ k_) ∨ w.heap.size ≤ k_) ∧ some k_ ≠ (v9 : Value).ownBlock) v130 t129) ∧ Aside0 (Kd.N (Kd.slice 3 (Kd.int .i64)) 49 w' w.heap.size (fun k_ => ((P0_ k_ ∨ P1_ k_) ∨ w.heap.size ≤ k_) ∧ some k_ ≠ (v130 : Value).ownBlock) v9 x9_1) ∧ Aside0 (Below w.heap.size w w'))
      case atStart => exact ⟨(([] : List (List Int))), (0), (by first | rfl | (simp; done) | (simp [*]; done)), H', ⟨Nat.le_refl _⟩, ⟨by (with_reducible repeat (first | apply Kd.V_alloc | apply Kd.V_drewN | apply Kd.V_drew)); exact Kd.V_mono HO0.out (fun _ hk => ⟨hk.1.1, ⟨hk.2, (by simp [Value.ownBlock])⟩⟩)⟩, ⟨by (with_reducible repeat (first | apply Kd.V_alloc | apply Kd.V_drewN | apply Kd.V_drew)); exact Kd.V_mono HO1.out (fun _ hk => ⟨hk.1.1, ⟨hk.2, (by simp [Value.ownBlock])⟩⟩)⟩, ⟨by (with_reducible repeat (first | apply Kd.N_alloc | apply Kd.N_drewN | apply Kd.N_drew)); exact Kd.N_mono HO131.out (fun _ hk => ⟨hk.1, (by simp [Value.ownBlock])⟩)⟩, ⟨by first | exact Kd.S_nil _ _ _ _ _ | exact Kd.N_nil _ _ _ _ _ | exact Kd.V_nil _ _ _ _ _ | exact Kd.Q_nil _ _ _ _ _ | exact Kd.R_nil _ _ _ _ _⟩, ⟨by repeat (first | (with_reducible first | exact HB.out | apply below_alloc | apply pw_below_drewN | apply below_drew1) | exact HB.out)⟩⟩
      case round =>
        clear H'
        try clear c1
        try clear c2
        try clear p2
        try clear c4
        try clear c4b0
        try clear c4b1
        try clear c5
        obtain ⟨x9_1, x10_1, rfl, HA, HK1, HO_0, HO_1, HO_8, HO_9, HB⟩ := hrel
        cases gk with
        | zero => exact absurd HA.out (by simp [sennitref20_Table.l0])
        | succ k1 =>
          have H := HA.out
          clear HA
          simp only [sennitref20_Table.l0] at H
          by_cases c12 : x10_1 < (l1.length : Int)
          · rw [if_pos c12] at H
            have c12b0 : decide (x10_1 < (l1.length : Int)) = true := decide_eq_true c12
            clear c12
            by_cases c13 : 0 < (t129.length : Int)
            · rw [if_pos c13] at H
              have c13b0 : decide (0 < (t129.length : Int)) = true := decide_eq_true c13
              have c13b1 : decide (0 < t129.length) = true := decide_eq_true (by omega)
              clear c13
              obtain ⟨ji14, hji14⟩ : ∃ j_ : Int, (wrap64 (x10_1 + 1)) = j_ := ⟨_, rfl⟩
              replace H : (if 0 ≤ (ji14) then (if (ji14) < (t129.length : Int) then ((sennitref03_Match.f k1 (rd_L7 t129 0) (rd_L7 t129 (ji14))).bind fun t134 => (if x9_1.length < 5864062014805 then (sennitref20_Table.l0 k1 l0 l1 t129 (x9_1 ++ [t134]) ji14) else (none))) else (none)) else (none)) = some (r1, r2) := by first | (rw [hji14] at H; exact H) | (simp only [hji14] at H ⊢; exact H)
              have hji14w : (IntKind.i64.wrap (x10_1 + 1)) = ji14 := (i64_w _).trans hji14
              by_cases c15 : 0 ≤ (ji14)
              · rw [if_pos c15] at H
                have c15b0 : decide (0 ≤ (ji14)) = true := decide_eq_true c15
                clear c15
                by_cases c16 : (ji14) < (t129.length : Int)
                · rw [if_pos c16] at H
                  have c16b0 : decide ((ji14) < (t129.length : Int)) = true := decide_eq_true c16
                  clear c16
                  replace H := Option.bind_eq_some_iff.mp H
                  obtain ⟨t134, A170, H⟩ := H
                  replace H : (if x9_1.length < 5864062014805 then (sennitref20_Table.l0 k1 l0 l1 t129 (x9_1 ++ [t134]) ji14) else (none)) = some (r1, r2) := H
                  have A17 := Aside0.mk A170
                  clear A170
                  by_cases c18 : x9_1.length < 5864062014805
                  · rw [if_pos c18] at H
                    have LMc18 := Aside0.mk c18
                    clear c18
                    obtain ⟨y137, hy137⟩ : ∃ y_ : List (List Int), y_ = (x9_1 ++ [t134]) := ⟨_, rfl⟩
                    replace H : (sennitref20_Table.l0 k1 l0 l1 t129 y137 ji14) = some (r1, r2) := by first | (rw [hy137]; with_reducible exact H) | (have H2_ := (Option.bind_some _ _).symm.trans H; rw [hy137]; with_reducible exact H2_) | (have H2_ := (Option.bind_some _ _).symm.trans H; with_reducible exact H2_) | with_reducible exact H | (rw [hy137]; exact H) | exact H
                    have Ny137 := Aside0.mk hy137
                    clear hy137
                    have H' := Aside0.mk H
                    clear H
                    try go_wp2
                    have n0_ := Aside0.mk (Kd.V_drew HO_0.out)
                    have n1_ := Aside0.mk (Kd.V_drew HO_1.out)
                    have n2_ := Aside0.mk (Kd.N_drew HO_8.out)
                    have n3_ := Aside0.mk (Kd.N_drew HO_9.out)
                    have n4_ := Aside0.mk (below_drew1 HB.out)
                    clear HO_0
                    clear HO_1
                    clear HO_8
                    clear HO_9
                    clear HB
                    have HO_0 := n0_
                    have HO_1 := n1_
                    have HO_8 := n2_
                    have HO_9 := n3_
                    have HB := n4_
                    clear n0_ n1_ n2_ n3_ n4_
                    obtain ⟨Ao20, co20, eo20⟩ := Kd.N_slice HO_8.out
                    (first | subst eo20 | (injection eo20 with f1_ f2_ f3_; have f4_ := f1_.symm; have f5_ := f3_.symm; clear f1_ f2_ f3_; subst f4_; subst f5_))
                    have p132 : 0 ≤ (0 : Int) := (by omega)
                    have q132 : 0 < (t129.length : Int) := of_decide_eq_true (by first | (with_reducible assumption) | assumption)
                    obtain ⟨ad132, A132_0, c132_0, e132, hx132_0, hl132_0, hi132_0⟩ := at_L7 (Kd.N_reads' HO_8.out).2.2 0 p132 q132
                    cases e132
                    obtain ⟨ce132, hce132, hMe132, hcc132⟩ := Kd.N_get HO_8.out [] 0 p132 (by first | exact q132 | exact of_decide_eq_true (by first | (with_reducible assumption) | assumption) | (have e_ := (Kd.N_reads' HO_8.out).1; omega))
                    obtain ⟨ua132_0, uc132_0, rfl, ul132_0, ge132_0⟩ := Kd.FK_slice_open hMe132
                    have hv132_0 := hcc132 0 _ rfl
                    rw [Nat.add_zero, show ((Kd.slice 3 (Kd.int .i64))).sz = 1 from rfl, Nat.mul_one] at hv132_0
                    replace hv132_0 := Option.some.inj (hv132_0.symm.trans hx132_0)
                    injection hv132_0 with hva_ hvn_ hvc_
                    rw [hva_] at ge132_0
                    rw [hvc_] at ul132_0
                    have HL132_0 := Aside0.mk (show Kd.V (Kd.int .i64) 3 _ w.heap.size _ _ (rd_L7 t129 0) from Kd.V_mk ul132_0 ge132_0)
                    clear hva_ hvn_ hvc_ ge132_0 ul132_0
                    clear hcc132 hce132
                    have qi132 : (0 < t129.length) = True := eq_true (by omega)
                    (try rw [show ((0 : Int)).toNat = 0 from rfl] at hx132_0)
                    (try rw [Addr.add_zero'] at hx132_0)
                    have HR132_0 := Aside0.mk hi132_0
                    have HC132_0 := Aside0.mk hl132_0
                    clear hi132_0 hl132_0
                    replace p132 := eq_true p132
                    replace q132 := eq_true q132
                    have p133 : 0 ≤ ((ji14) : Int) := of_decide_eq_true (by first | (with_reducible assumption) | assumption)
                    have q133 : (ji14) < (t129.length : Int) := of_decide_eq_true (by first | (with_reducible assumption) | assumption)
                    obtain ⟨ad133, A133_0, c133_0, e133, hx133_0, hl133_0, hi133_0⟩ := at_L7 (Kd.N_reads' HO_8.out).2.2 (ji14) p133 q133
                    obtain rfl : ad132 = ad133 := (by injection e133)
                    obtain ⟨ce133, hce133, hMe133, hcc133⟩ := Kd.N_get HO_8.out [] (ji14) p133 (by first | exact q133 | exact of_decide_eq_true (by first | (with_reducible assumption) | assumption) | (have e_ := (Kd.N_reads' HO_8.out).1; omega))
                    obtain ⟨ua133_0, uc133_0, rfl, ul133_0, ge133_0⟩ := Kd.FK_slice_open hMe133
                    have hv133_0 := hcc133 0 _ rfl
                    rw [Nat.add_zero, show ((Kd.slice 3 (Kd.int .i64))).sz = 1 from rfl, Nat.mul_one] at hv133_0
                    replace hv133_0 := Option.some.inj (hv133_0.symm.trans hx133_0)
                    injection hv133_0 with hva_ hvn_ hvc_
                    rw [hva_] at ge133_0
                    rw [hvc_] at ul133_0
                    have HL133_0 := Aside0.mk (show Kd.V (Kd.int .i64) 3 _ w.heap.size _ _ (rd_L7 t129 (ji14)) from Kd.V_mk ul133_0 ge133_0)
                    clear hva_ hvn_ hvc_ ge133_0 ul133_0
                    clear hcc133 hce133
                    have HR133_0 := Aside0.mk hi133_0
                    have HC133_0 := Aside0.mk hl133_0
                    clear hi133_0 hl133_0
                    replace p133 := eq_true p133
                    replace q133 := eq_true q133
                    refine start_ (n := 13) (S := fun w' => w'.cell? ad132 = some (.slice A132_0 (rd_L7 t129 0).length c132_0) ∧ w'.cell? (ad132.add ((ji14)).toNat) = some (.slice A133_0 (rd_L7 t129 (ji14)).length c133_0)) (ds := [10, 11]) #[false, false, false, false, false, false, false, false, false, false, false, false, false] (by kernel_rfl) rfl rfl ⟨hx132_0, hx133_0⟩ (fun hHeld => ?_); refine with_tabW sennitref20_Table.tab11 sennitref20_Table.bits11 (fun HT_ HW_ => ?_)
                    generalize wr.drew = w19 at HO_0 HO_1 HO_8 HO_9 HB HL132_0 HL133_0 HR132_0 HR133_0 hx132_0 hx133_0 hHeld ⊢
                    refine pure_ (i := 0) (N := some 36) (v := ?_) (a' := ?_) #[true, false, false, false, false, false, false, false, false, false, false, false, false] rfl rfl (any_of HT_.out (by kernel_rfl)) (fun _ _ _ h => h) (Or.inl ⟨by rfl, ?_⟩) ?_ ?_
                    rotate_left
                    · intro w'
                      go_simp
                      with_reducible rfl
                    rotate_left
                    · simp only [Act.put, List.setIfInBounds_toArray, List.set_cons_zero, List.set_cons_succ, i64_w, i32_w]
                      rfl
                    refine pure_ (i := 1) (N := some 37) (v := ?_) (a' := ?_) #[true, true, false, false, false, false, false, false, false, false, false, false, false] rfl rfl (any_of HT_.out (by kernel_rfl)) (fun _ _ _ h => h) (Or.inl ⟨by rfl, ?_⟩) ?_ ?_
                    rotate_left
                    · intro w'
                      go_simp
                      with_reducible rfl
                    rotate_left
                    · simp only [Act.put, List.setIfInBounds_toArray, List.set_cons_zero, List.set_cons_succ, i64_w, i32_w]
                      rfl
                    refine pure_ (i := 2) (N := some 38) (v := ?_) (a' := ?_) #[true, true, true, false, false, false, false, false, false, false, false, false, false] rfl rfl (any_of HT_.out (by kernel_rfl)) (fun _ _ _ h => h) (Or.inl ⟨by rfl, ?_⟩) ?_ ?_
                    rotate_left
                    · intro w'
                      go_simp
                      with_reducible rfl
                    rotate_left
                    · simp only [Act.put, List.setIfInBounds_toArray, List.set_cons_zero, List.set_cons_succ, i64_w, i32_w]
                      rfl
                    refine pure_ (i := 4) (N := some 40) (v := ?_) (a' := ?_) #[true, true, true, false, true, false, false, false, false, false, false, false, false] rfl rfl (any_of HT_.out (by kernel_rfl)) (fun _ _ _ h => h) (Or.inl ⟨by rfl, ?_⟩) ?_ ?_
                    rotate_left
                    · intro w'
                      go_simp
                      with_reducible rfl
                    rotate_left
                    · simp only [Act.put, List.setIfInBounds_toArray, List.set_cons_zero, List.set_cons_succ, i64_w, i32_w]
                      rfl
                    refine pure_ (i := 5) (N := some 41) (v := ?_) (a' := ?_) #[true, true, true, false, true, true, false, false, false, false, false, false, false] rfl rfl (any_of HT_.out (by kernel_rfl)) (fun _ _ _ h => h) (Or.inl ⟨by rfl, ?_⟩) ?_ ?_
                    rotate_left
                    · intro w'
                      go_simp
                      with_reducible rfl
                    rotate_left
                    · simp only [Act.put, List.setIfInBounds_toArray, List.set_cons_zero, List.set_cons_succ, i64_w, i32_w]
                      rfl
                    refine pure_ (i := 6) (N := some 42) (v := ?_) (a' := ?_) #[true, true, true, false, true, true, true, false, false, false, false, false, false] rfl rfl (any_of HT_.out (by kernel_rfl)) (fun _ _ _ h => h) (Or.inl ⟨by rfl, ?_⟩) ?_ ?_
                    rotate_left
                    · intro w'
                      go_simp
                      with_reducible rfl
                    rotate_left
                    · simp only [Act.put, List.setIfInBounds_toArray, List.set_cons_zero, List.set_cons_succ, i64_w, i32_w]
                      rfl
                    refine pure_ (i := 7) (N := some 43) (v := ?_) (a' := ?_) #[true, true, true, false, true, true, true, true, false, false, false, false, false] rfl rfl (any_of HT_.out (by kernel_rfl)) (fun _ _ _ h => h) (Or.inl ⟨by rfl, ?_⟩) ?_ ?_
                    rotate_left
                    · intro w'
                      go_simp
                      with_reducible rfl
                    rotate_left
                    · simp only [Act.put, List.setIfInBounds_toArray, List.set_cons_zero, List.set_cons_succ, i64_w, i32_w]
                      rfl
                    refine take_ (i := 3) (N := some 39) (v := ?_) (a' := ?_) #[true, true, true, true, true, true, true, true, false, false, false, false, false] rfl rfl (take_ofW HT_.out HW_.out (by kernel_rfl)) (fun _ _ _ h => h) (Or.inl ⟨by rfl, ?_⟩) hHeld ?_ ?_
                    rotate_left
                    · rintro w' ⟨s0, s1⟩
                      go_simp
                      with_reducible rfl
                    rotate_left
                    · simp only [Act.put, List.setIfInBounds_toArray, List.set_cons_zero, List.set_cons_succ, i64_w, i32_w]
                      rfl
                    refine take_ (i := 8) (N := some 44) (v := ?_) (a' := ?_) #[true, true, true, true, true, true, true, true, true, false, false, false, false] rfl rfl (take_ofW HT_.out HW_.out (by kernel_rfl)) (fun _ _ _ h => h) (Or.inl ⟨by rfl, ?_⟩) hHeld ?_ ?_
                    rotate_left
                    · rintro w' ⟨s0, s1⟩
                      go_simp
                      with_reducible rfl
                    rotate_left
                    · simp only [Act.put, List.setIfInBounds_toArray, List.set_cons_zero, List.set_cons_succ, i64_w, i32_w]
                      rfl
                    refine one_ (i := 9) (N := some 45) #[true, true, true, true, true, true, true, true, true, true, false, false, false] rfl rfl (one_of HT_.out (by kernel_rfl)) (by decide) (fun K hK => ?_)
                    refine goes_ Try.func49 (by kernel_rfl) rfl #[.slice A132_0 (rd_L7 t129 0).length c132_0, .slice A133_0 (rd_L7 t129 (ji14)).length c133_0] (by rfl) rfl rfl (by (try simp only [List.map_toArray, List.map_cons, List.map_nil]); first | done | (simp only [hji14]; rfl) | rfl | (simp only [List.length_drop, List.length_take]; rfl)) ?_
                    with_reducible refine (sennitref03_Match.calls k1 _ _ (rd_L7 t129 0) _ _ (rd_L7 t129 (ji14)) t134 _ ?side1 ?side2 ?side3 ?side4 A17.out).mono ?_
                    (case side1 => repeat (first | exact (by repeat (first | (with_reducible exact HR132_0.out) | (with_reducible refine Kd.C_alloc ?_ _) | (with_reducible refine Kd.C_drewN ?_ _) | (with_reducible refine Kd.C_drew ?_) | exact HR132_0.out)) | (with_reducible refine Kd.C_alloc ?_ _) | (with_reducible refine Kd.C_drewN ?_ _) | (with_reducible refine Kd.C_drew ?_)))
                    (case side2 => exact HC132_0.out)
                    (case side3 => repeat (first | exact (by repeat (first | (with_reducible exact HR133_0.out) | (with_reducible refine Kd.C_alloc ?_ _) | (with_reducible refine Kd.C_drewN ?_ _) | (with_reducible refine Kd.C_drew ?_) | exact HR133_0.out)) | (with_reducible refine Kd.C_alloc ?_ _) | (with_reducible refine Kd.C_drewN ?_ _) | (with_reducible refine Kd.C_drew ?_)))
                    (case side4 => exact HC133_0.out)
                    rintro e w21 ⟨v135, rfl, ho0, hb⟩
                    have HS0_ := (hb.cell (World.block_lt_of_cell? _ _ (hHeld.1))).trans (hHeld.1)
                    have HS1_ := (hb.cell (World.block_lt_of_cell? _ _ (hHeld.2))).trans (hHeld.2)
                    refine ⟨_, rfl, ?_⟩
                    have n0_ := Aside0.mk (Kd.V_elder' (by (with_reducible repeat (first | apply Kd.V_alloc | apply Kd.V_drewN | apply Kd.V_drew)); exact HO_0.out) (Kd.R_base ho0) hb)
                    have n1_ := Aside0.mk (Kd.V_elder' (by (with_reducible repeat (first | apply Kd.V_alloc | apply Kd.V_drewN | apply Kd.V_drew)); exact HO_1.out) (Kd.R_base ho0) hb)
                    have n2_ := Aside0.mk (Kd.N_elder' (by (with_reducible repeat (first | apply Kd.N_alloc | apply Kd.N_drewN | apply Kd.N_drew)); exact HO_8.out) (Kd.R_base ho0) hb)
                    have n3_ := Aside0.mk (Kd.N_elder' (by (with_reducible repeat (first | apply Kd.N_alloc | apply Kd.N_drewN | apply Kd.N_drew)); exact HO_9.out) (Kd.R_base ho0) hb)
                    have n4_ := Aside0.mk (Kd.V_elder' (by (with_reducible repeat (first | apply Kd.V_alloc | apply Kd.V_drewN | apply Kd.V_drew)); exact HL132_0.out) (Kd.R_base ho0) hb)
                    have n5_ := Aside0.mk (Kd.V_elder' (by (with_reducible repeat (first | apply Kd.V_alloc | apply Kd.V_drewN | apply Kd.V_drew)); exact HL133_0.out) (Kd.R_base ho0) hb)
                    have n6_ := Aside0.mk (Kd.R_lower (Kd.R_newM (M := fun k_ => (w.heap.size ≤ k_)) ho0 (below_size (by repeat (first | (with_reducible first | exact HB.out | apply below_alloc | apply pw_below_drewN | apply below_drew1) | exact HB.out))) (fun k_ h_ => h_)) (below_size (by repeat (first | (with_reducible first | exact HB.out | apply below_alloc | apply pw_below_drewN | apply below_drew1) | exact HB.out))))
                    have n7_ := Aside0.mk (Kd.C_below (by repeat (first | (with_reducible exact HR132_0.out) | (with_reducible refine Kd.C_alloc ?_ _) | (with_reducible refine Kd.C_drewN ?_ _) | (with_reducible refine Kd.C_drew ?_) | exact HR132_0.out)) hb)
                    have n8_ := Aside0.mk (Kd.C_below (by repeat (first | (with_reducible exact HR133_0.out) | (with_reducible refine Kd.C_alloc ?_ _) | (with_reducible refine Kd.C_drewN ?_ _) | (with_reducible refine Kd.C_drew ?_) | exact HR133_0.out)) hb)
                    have n9_ := Aside0.mk (below_step (by repeat (first | (with_reducible first | exact HB.out | apply below_alloc | apply pw_below_drewN | apply below_drew1) | exact HB.out)) hb)
                    clear HO_0
                    clear HO_1
                    clear HO_8
                    clear HO_9
                    clear HL132_0
                    clear HL133_0
                    clear HR132_0
                    clear HR133_0
                    clear HB
                    have HO_0 := n0_
                    have HO_1 := n1_
                    have HO_8 := n2_
                    have HO_9 := n3_
                    have HL132_0 := n4_
                    have HL133_0 := n5_
                    have HO136 := n6_
                    have HR132_0 := n7_
                    have HR133_0 := n8_
                    have HB := n9_
                    clear n0_ n1_ n2_ n3_ n4_ n5_ n6_ n7_ n8_ n9_
                    (try clear hb)
                    (try clear hb2)
                    (try clear hk)
                    (try clear hi)
                    (try clear ho0)
                    obtain ⟨Ao23, co23, eo23⟩ := Kd.R_slice HO136.out
                    (first | subst eo23 | (injection eo23 with f1_ f2_ f3_; have f4_ := f1_.symm; have f5_ := f3_.symm; clear f1_ f2_ f3_; subst f4_; subst f5_))
                    refine hK.out _ _ ⟨HS0_, HS1_⟩ (fun hHeld => ?_)
                    clear hK K
                    refine norm_ (a' := ?_) ?_ ?_
                    rotate_left
                    · show Act.put _ (some 45) _ = _
                      simp only [Act.put, List.setIfInBounds_toArray, List.set_cons_zero, List.set_cons_succ, i64_w, i32_w]
                      rfl
                    refine last_ (i := 10) (N := some 46) #[true, true, true, true, true, true, true, true, true, true, true, false, false] rfl rfl (one_of HT_.out (by kernel_rfl)) (by decide) (fun K hK => ?_)
                    refine value_ (w1 := ?_) (v := ?_) (by rfl) rfl ?_ ?_
                    rotate_left 2
                    · go_simp
                      constructor
                      · rfl
                      · rfl
                    refine hK.out _ _ ?_
                    clear hK K
                    refine norm_ (a' := ?_) ?_ ?_
                    rotate_left
                    · show Act.put _ (some 46) _ = _
                      simp only [Act.put, List.setIfInBounds_toArray, List.set_cons_zero, List.set_cons_succ, i64_w, i32_w]
                      rfl
                    refine last_ (i := 11) (N := some 47) #[true, true, true, true, true, true, true, true, true, true, true, true, false] rfl rfl (one_of HT_.out (by kernel_rfl)) (by decide) (fun K hK => ?_)
                    refine Kd.N_append_step (Kd.slice 3 (Kd.int .i64)) (w0 := w) w.heap.size (by rfl) (.tmp 36) (.tmp 46) 44 49 (.slice none 0 0) 24 rfl Try.underlying44 info49 rfl (by decide) (by omega) u9 x9_1 t134 [.slice Ao23 t134.length co23] (fun k_ => ((P0_ k_ ∨ P1_ k_) ∨ w.heap.size ≤ k_) ∧ some k_ ≠ (.slice (some ad132) t129.length co20 : Value).ownBlock) (fun k_ => ((fun k_ => ((P0_ k_ ∨ P1_ k_) ∨ w.heap.size ≤ k_) ∧ some k_ ≠ (.slice (some ad132) t129.length co20 : Value).ownBlock)) k_ ∧ some k_ ≠ (u9 : Value).ownBlock) rfl rfl ?aP (fun _ hk => hk) ?aF ?aO ?aB ?aS ?aL ?_
                    (case aP => exact (Kd.FK_slice_mk (Kd.R_reads' (Kd.R_mono (ok' := (fun k_ => ((fun k_ => ((P0_ k_ ∨ P1_ k_) ∨ w.heap.size ≤ k_) ∧ some k_ ≠ (.slice (some ad132) t129.length co20 : Value).ownBlock)) k_ ∧ some k_ ≠ (u9 : Value).ownBlock)) (Kd.R_apart' (Kd.R_apart' (HO136.out) (Kd.N_typed HO_8.out) (by decide)) (Kd.N_typed HO_9.out) (by decide)) (fun k_ hk => ⟨⟨(.inr (hk.1.1.1)), hk.1.2⟩, hk.2⟩))).2.1 (Kd.R_F (Kd.R_mono (ok' := (fun k_ => ((fun k_ => ((P0_ k_ ∨ P1_ k_) ∨ w.heap.size ≤ k_) ∧ some k_ ≠ (.slice (some ad132) t129.length co20 : Value).ownBlock)) k_ ∧ some k_ ≠ (u9 : Value).ownBlock)) (Kd.R_apart' (Kd.R_apart' (HO136.out) (Kd.N_typed HO_8.out) (by decide)) (Kd.N_typed HO_9.out) (by decide)) (fun k_ hk => ⟨⟨(.inr (hk.1.1.1)), hk.1.2⟩, hk.2⟩)))))
                    (case aB => exact (by repeat (first | (with_reducible first | exact HB.out | apply below_alloc | apply pw_below_drewN | apply below_drew1) | exact HB.out)))
                    (case aF => exact (fun k_ hk => ⟨(.inr (Nat.le_trans (below_size (by repeat (first | (with_reducible first | exact HB.out | apply below_alloc | apply pw_below_drewN | apply below_drew1) | exact HB.out))) hk)), Kd.fresh' (Kd.N_lt (by (with_reducible repeat (first | apply Kd.N_alloc | apply Kd.N_drewN | apply Kd.N_drew)); exact HO_8.out)) k_ hk⟩))
                    (case aO => exact (by (with_reducible repeat (first | apply Kd.N_alloc | apply Kd.N_drewN | apply Kd.N_drew)); exact Kd.N_mono HO_9.out (fun _ hk => ⟨hk.1.1, hk.1.2⟩)))
                    (case aS => exact (below_size (by repeat (first | (with_reducible first | exact HB.out | apply below_alloc | apply pw_below_drewN | apply below_drew1) | exact HB.out))))
                    (case aL => have := LMc18.out; omega)
                    intro v138 w22 ho hb hg hat
                    rw [← Ny137.out] at ho
                    have n0_ := Aside0.mk (Kd.V_afterv (ok := (fun k_ => ((P0_ k_ ∨ P1_ k_) ∨ w.heap.size ≤ k_) ∧ some k_ ≠ (.slice (some ad132) t129.length co20 : Value).ownBlock ∧ some k_ ≠ (.slice Ao23 t134.length co23 : Value).ownBlock)) (by (with_reducible repeat (first | apply Kd.V_alloc | apply Kd.V_drewN | apply Kd.V_drew)); exact Kd.V_mono HO_0.out (fun _ hk => ⟨⟨hk.1.1, ⟨hk.1.2.1, hk.2⟩⟩, hk.1.2.2⟩)) hg hat)
                    have n1_ := Aside0.mk (Kd.V_afterv (ok := (fun k_ => ((P0_ k_ ∨ P1_ k_) ∨ w.heap.size ≤ k_) ∧ some k_ ≠ (.slice (some ad132) t129.length co20 : Value).ownBlock ∧ some k_ ≠ (.slice Ao23 t134.length co23 : Value).ownBlock)) (by (with_reducible repeat (first | apply Kd.V_alloc | apply Kd.V_drewN | apply Kd.V_drew)); exact Kd.V_mono HO_1.out (fun _ hk => ⟨⟨hk.1.1, ⟨hk.1.2.1, hk.2⟩⟩, hk.1.2.2⟩)) hg hat)
                    have n2_ := Aside0.mk (Kd.N_afterv (ok := (fun k_ => ((P0_ k_ ∨ P1_ k_) ∨ w.heap.size ≤ k_) ∧ some k_ ≠ (.slice Ao23 t134.length co23 : Value).ownBlock)) (by (with_reducible repeat (first | apply Kd.N_alloc | apply Kd.N_drewN | apply Kd.N_drew)); exact Kd.N_mono HO_8.out (fun _ hk => ⟨⟨hk.1.1, hk.2⟩, hk.1.2⟩)) hg hat)
                    have n3_ := Aside0.mk (Kd.V_afterv (ok := (fun k_ => ((P0_ k_ ∨ P1_ k_) ∨ w.heap.size ≤ k_) ∧ some k_ ≠ (.slice (some ad132) t129.length co20 : Value).ownBlock ∧ some k_ ≠ (.slice Ao23 t134.length co23 : Value).ownBlock)) (by (with_reducible repeat (first | apply Kd.V_alloc | apply Kd.V_drewN | apply Kd.V_drew)); exact Kd.V_mono HL132_0.out (fun _ hk => ⟨⟨hk.1.1.1, ⟨hk.1.2, hk.2⟩⟩, hk.1.1.2⟩)) hg hat)
                    have n4_ := Aside0.mk (Kd.V_afterv (ok := (fun k_ => ((P0_ k_ ∨ P1_ k_) ∨ w.heap.size ≤ k_) ∧ some k_ ≠ (.slice (some ad132) t129.length co20 : Value).ownBlock ∧ some k_ ≠ (.slice Ao23 t134.length co23 : Value).ownBlock)) (by (with_reducible repeat (first | apply Kd.V_alloc | apply Kd.V_drewN | apply Kd.V_drew)); exact Kd.V_mono HL133_0.out (fun _ hk => ⟨⟨hk.1.1.1, ⟨hk.1.2, hk.2⟩⟩, hk.1.1.2⟩)) hg hat)
                    have n5_ := Aside0.mk (hb)
                    have n6_ := Aside0.mk (ho)
                    clear HO_0
                    clear HO_1
                    clear HO_8
                    clear HL132_0
                    clear HL133_0
                    clear HB
                    clear HO_9
                    clear HO136
                    have HO_0 := n0_
                    have HO_1 := n1_
                    have HO_8 := n2_
                    have HL132_0 := n3_
                    have HL133_0 := n4_
                    have HB := n5_
                    have HO139 := n6_
                    clear n0_ n1_ n2_ n3_ n4_ n5_ n6_
                    clear ho hb hg hat
                    refine hK.out _ _ ?_
                    clear hK K
                    refine norm_ (a' := ?_) ?_ ?_
                    rotate_left
                    · show Act.put _ (some 47) _ = _
                      simp only [Act.put, List.setIfInBounds_toArray, List.set_cons_zero, List.set_cons_succ, i64_w, i32_w]
                      rfl
                    refine pure_ (i := 12) (N := some 9) (v := ?_) (a' := ?_) #[true, true, true, true, true, true, true, true, true, true, true, true, true] rfl rfl (any_of HT_.out (by kernel_rfl)) (fun _ _ _ h => h) (Or.inl ⟨by rfl, ?_⟩) ?_ ?_
                    rotate_left
                    · intro w'
                      go_simp
                      with_reducible rfl
                    rotate_left
                    · simp only [Act.put, List.setIfInBounds_toArray, List.set_cons_zero, List.set_cons_succ, i64_w, i32_w]
                      rfl
                    refine done_ (done_of HT_.out (by kernel_rfl)) ?_
                    try go_wp2
                    go_roundg k1
                    case measure => have := HK1.out; omega
                    case rel => exact ⟨(y137), (ji14), (by first | rfl | (simp; done) | (simp only [← hji14] <;> (first | rfl | simp)) | (simp [*]; done)), H', ⟨by have := HK1.out; omega⟩, ⟨by (with_reducible repeat (first | apply Kd.V_alloc | apply Kd.V_drewN | apply Kd.V_drew)); exact Kd.V_mono HO_0.out (fun _ hk => ⟨hk.1.1, ⟨hk.1.2.1, hk.2⟩⟩)⟩, ⟨by (with_reducible repeat (first | apply Kd.V_alloc | apply Kd.V_drewN | apply Kd.V_drew)); exact Kd.V_mono HO_1.out (fun _ hk => ⟨hk.1.1, ⟨hk.1.2.1, hk.2⟩⟩)⟩, ⟨by (with_reducible repeat (first | apply Kd.N_alloc | apply Kd.N_drewN | apply Kd.N_drew)); exact Kd.N_mono HO_8.out (fun _ hk => ⟨hk.1.1, hk.2⟩)⟩, ⟨by (with_reducible repeat (first | apply Kd.N_alloc | apply Kd.N_drewN | apply Kd.N_drew)); exact HO139.out⟩, ⟨by repeat (first | (with_reducible first | exact HB.out | apply below_alloc | apply pw_below_drewN | apply below_drew1) | exact HB.out)⟩⟩
                  · rw [if_neg c18] at H
                    exact absurd H (by simp)
                · rw [if_neg c16] at H
                  exact absurd H (by simp)
              · rw [if_neg c15] at H
                exact absurd H (by simp)
            · rw [if_neg c13] at H
              exact absurd H (by simp)
          · rw [if_neg c12] at H
            have c12b0 : decide (x10_1 < (l1.length : Int)) = false := decide_eq_false c12
            clear c12
            have H' := Aside0.mk H
            clear H
            go_wp2
            go_loopg [11, 12] k1 (fun kq v11 v12 w' => ∃ (x11_2 : List (S37)) (x12_2 : Int), v12 = .int .i64 x12_2 ∧ Aside0 (sennitref20_Table.l1 kq l0 l1 x9_1 x11_2 x12_2 = some (r1, r2)) ∧ Aside0 (kq ≤ k1) ∧ Aside0 (Kd.V Kd.string 9 w' w.heap.size (fun k_ => ((P0_ k_ ∨ P1_ k_) ∨ w.heap.size ≤ k_) ∧ some k_ ≠ (u9 : Value).ownBlock ∧ some k_ ≠ (v11 : Value).ownBlock) (.slice A0 l0.length c0) l0) ∧ Aside0 (Kd.V (Kd.slice 9 Kd.string) 34 w' w.heap.size (fun k_ => ((P0_ k_ ∨ P1_ k_) ∨ w.heap.size ≤ k_) ∧ some k_ ≠ (u9 : Value).ownBlock ∧ some k_ ≠ (v11 : Value).ownBlock) (.slice A1 l1.length c1) l1) ∧ Aside0 (Kd.N (Kd.slice 3 (Kd.int .i64)) 49 w' w.heap.size (fun k_ => ((P0_ k_ ∨ P1_ k_) ∨ w.heap.size ≤ k_) ∧ some k_ ≠ (v11 : Value).ownBlock) u9 x9_1) ∧ Aside0 (Kd.R k37 37 w' w.heap.size (fun k_ => (w.heap.size ≤ k_)) v11 x11_2) ∧ Aside0 (Below w.heap.size w w'))
            case atStart => exact ⟨(([] : List (S37))), (0), (by first | rfl | (simp; done) | (simp [*]; done)), H', ⟨Nat.le_refl _⟩, ⟨by (with_reducible repeat (first | apply Kd.V_alloc | apply Kd.V_drewN | apply Kd.V_drew)); exact Kd.V_mono HO_0.out (fun _ hk => ⟨hk.1, ⟨hk.2.2, (by simp [Value.ownBlock])⟩⟩)⟩, ⟨by (with_reducible repeat (first | apply Kd.V_alloc | apply Kd.V_drewN | apply Kd.V_drew)); exact Kd.V_mono HO_1.out (fun _ hk => ⟨hk.1, ⟨hk.2.2, (by simp [Value.ownBlock])⟩⟩)⟩, ⟨by (with_reducible repeat (first | apply Kd.N_alloc | apply Kd.N_drewN | apply Kd.N_drew)); exact Kd.N_mono HO_9.out (fun _ hk => ⟨hk.1, (by simp [Value.ownBlock])⟩)⟩, ⟨by first | exact Kd.R_nil _ _ _ _ _ | exact Kd.N_nil _ _ _ _ _ | exact Kd.V_nil _ _ _ _ _ | exact Kd.Q_nil _ _ _ _ _ | exact Kd.S_nil _ _ _ _ _⟩, ⟨by repeat (first | (with_reducible first | exact HB.out | apply below_alloc | apply pw_below_drewN | apply below_drew1) | exact HB.out)⟩⟩
            case round =>
              clear H'
              try clear c1
              try clear p1
              try clear q1
              try clear hx1
              try clear qi1
              try clear c2
              try clear p2
              try clear c4
              try clear c4b0
              try clear c4b1
              try clear c5
              try clear p6
              try clear c12
              try clear c12b0
              try clear c13
              try clear c13b0
              try clear c13b1
              try clear p13
              try clear q13
              try clear hx13
              try clear qi13
              try clear c15
              try clear c15b0
              try clear c16
              try clear c16b0
              try clear c18
              try clear hx132_0
              try clear hx133_0
              try clear p132
              try clear p133
              try clear p2
              try clear q132
              try clear q133
              obtain ⟨x11_2, x12_2, rfl, HA, HK2, HO_0, HO_1, HO_9, HO_11, HB⟩ := hrel
              cases gk with
              | zero => exact absurd HA.out (by simp [sennitref20_Table.l1])
              | succ k2 =>
                have H := HA.out
                clear HA
                simp only [sennitref20_Table.l1] at H
                by_cases c24 : x12_2 ≤ (l0.length : Int)
                · rw [if_pos c24] at H
                  have c24b0 : decide (x12_2 ≤ (l0.length : Int)) = true := decide_eq_true c24
                  clear c24
                  replace H := Option.bind_eq_some_iff.mp H
                  obtain ⟨⟨t140, t141⟩, A250, H⟩ := H
                  replace H : (if t141 = 0 then (if x11_2.length + t140.length < 4398046511104 then ((some (x11_2 ++ t140 : List (S37))).bind fun y144 => (if x12_2 = (l0.length : Int) then (some (y144, 0)) else (sennitref20_Table.l2 k2 l0 l1 x9_1 y144 x12_2 (⟨#[]⟩ : ByteArray) 0))) else (none)) else (some (([] : List (S37)), t141))) = some (r1, r2) := H
                  have A25 := Aside0.mk A250
                  clear A250
                  by_cases c26 : t141 = 0
                  · rw [if_pos c26] at H
                    have c26b0 : (t141 == 0) = true := beq_iff_eq.mpr c26
                    have c26b1 : (t141 != 0) = false := bne_eq_false_iff_eq.mpr c26
                    clear c26
                    by_cases c27 : x11_2.length + t140.length < 4398046511104
                    · rw [if_pos c27] at H
                      have LMc27 := Aside0.mk c27
                      clear c27
                      obtain ⟨y144, hy144⟩ : ∃ y_ : List (S37), y_ = (x11_2 ++ t140) := ⟨_, rfl⟩
                      replace H : (if x12_2 = (l0.length : Int) then (some (y144, 0)) else (sennitref20_Table.l2 k2 l0 l1 x9_1 y144 x12_2 (⟨#[]⟩ : ByteArray) 0)) = some (r1, r2) := by first | (rw [hy144]; with_reducible exact H) | (have H2_ := (Option.bind_some _ _).symm.trans H; rw [hy144]; with_reducible exact H2_) | (have H2_ := (Option.bind_some _ _).symm.trans H; with_reducible exact H2_) | with_reducible exact H | (rw [hy144]; exact H) | exact H
                      have Ny144 := Aside0.mk hy144
                      clear hy144
                      by_cases c28 : x12_2 = (l0.length : Int)
                      · rw [if_pos c28] at H
                        have c28b0 : (x12_2 == (l0.length : Int)) = true := beq_iff_eq.mpr c28
                        have c28b1 : (x12_2 != (l0.length : Int)) = false := bne_eq_false_iff_eq.mpr c28
                        clear c28
                        simp only [Option.some.injEq, Prod.mk.injEq] at H
                        obtain ⟨rfl, rfl⟩ := H
                        obtain ⟨Ao29, co29, eo29⟩ := Kd.N_slice HO_9.out
                        subst eo29
                        go_wp2_with (first | ((with_reducible refine gate_callee (f := 50) rfl ?_); refine goesL_ (some 58) rfl rfl Try.func50 (by kernel_rfl) rfl #[.slice A1 l1.length c1, .slice Ao29 x9_1.length co29, .int .i64 x12_2] rfl (by (try simp only [List.map_toArray, List.map_cons, List.map_nil]); first | done | rfl | (simp only [List.length_drop, List.length_take]; rfl)) ?_; (with_reducible refine (sennitref20_ahead.calls k2 _ _ l1 _ _ x9_1 x12_2 t140 t141 _ ?side1 ?side2 ?side3 ?side4 A25.out).mono ?_); (case side1 => repeat (first | exact (Kd.V_reads' HO_1.out).2.2 | (with_reducible refine Kd.C_alloc ?_ _) | (with_reducible refine Kd.C_drewN ?_ _) | (with_reducible refine Kd.C_drew ?_))); (case side2 => exact (Kd.V_reads' HO_1.out).2.1); (case side3 => repeat (first | exact (Kd.N_reads' HO_9.out).2.2 | (with_reducible refine Kd.C_alloc ?_ _) | (with_reducible refine Kd.C_drewN ?_ _) | (with_reducible refine Kd.C_drew ?_))); (case side4 => exact (Kd.N_reads' HO_9.out).2.1); rintro e w30 ⟨v142, rfl, ho0, hb⟩; refine ⟨_, rfl, ?_⟩; have n0_ := Aside0.mk (Kd.V_elder' (by (with_reducible repeat (first | apply Kd.V_alloc | apply Kd.V_drewN | apply Kd.V_drew)); exact HO_0.out) (Kd.R_base ho0) hb); have n1_ := Aside0.mk (Kd.V_elder' (by (with_reducible repeat (first | apply Kd.V_alloc | apply Kd.V_drewN | apply Kd.V_drew)); exact HO_1.out) (Kd.R_base ho0) hb); have n2_ := Aside0.mk (Kd.N_elder' (by (with_reducible repeat (first | apply Kd.N_alloc | apply Kd.N_drewN | apply Kd.N_drew)); exact HO_9.out) (Kd.R_base ho0) hb); have n3_ := Aside0.mk (Kd.R_elder' (by (with_reducible repeat (first | apply Kd.R_alloc | apply Kd.R_drewN | apply Kd.R_drew)); exact HO_11.out) (Kd.R_base ho0) hb); have n4_ := Aside0.mk (Kd.R_lower (Kd.R_new' (Kd.R_newM (M := fun k_ => (w.heap.size ≤ k_)) ho0 (below_size (by repeat (first | (with_reducible first | exact HB.out | apply below_alloc | apply pw_below_drewN | apply below_drew1) | exact HB.out))) (fun k_ h_ => h_)) (Kd.R_lt (by (with_reducible repeat (first | apply Kd.R_alloc | apply Kd.R_drewN | apply Kd.R_drew)); exact HO_11.out))) (below_size (by repeat (first | (with_reducible first | exact HB.out | apply below_alloc | apply pw_below_drewN | apply below_drew1) | exact HB.out)))); have n5_ := Aside0.mk (below_step (by repeat (first | (with_reducible first | exact HB.out | apply below_alloc | apply pw_below_drewN | apply below_drew1) | exact HB.out)) hb); clear HO_0; clear HO_1; clear HO_9; clear HO_11; clear HB; have HO_0 := n0_; have HO_1 := n1_; have HO_9 := n2_; have HO_11 := n3_; have HO143 := n4_; have HB := n5_; clear n0_ n1_ n2_ n3_ n4_ n5_; (try clear hb); (try clear hb2); (try clear hk); (try clear hi); (try clear ho0); obtain ⟨Ao32, co32, eo32⟩ := Kd.R_slice HO143.out; subst eo32) | ((with_reducible refine gate_builtin (b := .append) (xs := #[.tmp 64, .tmp 65]) rfl ?_); at_builtin; refine Kd.R_append_rows k37 (w0 := w) w.heap.size rfl (.tmp 64) (.tmp 65) 25 37 (.agg #[(.string ⟨#[]⟩), (.string ⟨#[]⟩)]) 32 rfl Try.underlying25 info37 rfl (by decide) (by omega) u11 x11_2 t140 _ _ _ (fun k_ => (w.heap.size ≤ k_) ∧ some k_ ≠ (.slice Ao32 t140.length co32 : Value).ownBlock) (fun _ => False) rfl rfl ?aO ?aR (fun _ _ h => h) (fun _ h => h.elim) ?aF ?aB ?aS ?aL ?_; (case aR => repeat (first | exact (Kd.R_reads' HO143.out).2.2 | (with_reducible refine Kd.C_alloc ?_ _) | (with_reducible refine Kd.C_drewN ?_ _) | (with_reducible refine Kd.C_drew ?_))); (case aB => exact (by repeat (first | (with_reducible first | exact HB.out | apply below_alloc | apply pw_below_drewN | apply below_drew1) | exact HB.out))); (case aF => exact (fun k_ hk => ⟨(Nat.le_trans (below_size (by repeat (first | (with_reducible first | exact HB.out | apply below_alloc | apply pw_below_drewN | apply below_drew1) | exact HB.out))) hk), Kd.fresh' (Kd.R_lt (by (with_reducible repeat (first | apply Kd.R_alloc | apply Kd.R_drewN | apply Kd.R_drew)); exact HO143.out)) k_ hk⟩)); (case aO => exact (by (with_reducible repeat (first | apply Kd.R_alloc | apply Kd.R_drewN | apply Kd.R_drew)); exact HO_11.out)); (case aS => exact (below_size (by repeat (first | (with_reducible first | exact HB.out | apply below_alloc | apply pw_below_drewN | apply below_drew1) | exact HB.out)))); (case aL => have := LMc27.out; omega); intro v145 w31 ho hb hg hat; rw [← Ny144.out] at ho; have n0_ := Aside0.mk (Kd.V_afterv (ok := (fun k_ => ((P0_ k_ ∨ P1_ k_) ∨ w.heap.size ≤ k_) ∧ some k_ ≠ (.slice Ao29 x9_1.length co29 : Value).ownBlock ∧ some k_ ≠ (.slice Ao32 t140.length co32 : Value).ownBlock)) (by (with_reducible repeat (first | apply Kd.V_alloc | apply Kd.V_drewN | apply Kd.V_drew)); exact Kd.V_mono HO_0.out (fun _ hk => ⟨⟨hk.1.1, ⟨hk.1.2.1, hk.2⟩⟩, hk.1.2.2⟩)) hg hat); have n1_ := Aside0.mk (Kd.V_afterv (ok := (fun k_ => ((P0_ k_ ∨ P1_ k_) ∨ w.heap.size ≤ k_) ∧ some k_ ≠ (.slice Ao29 x9_1.length co29 : Value).ownBlock ∧ some k_ ≠ (.slice Ao32 t140.length co32 : Value).ownBlock)) (by (with_reducible repeat (first | apply Kd.V_alloc | apply Kd.V_drewN | apply Kd.V_drew)); exact Kd.V_mono HO_1.out (fun _ hk => ⟨⟨hk.1.1, ⟨hk.1.2.1, hk.2⟩⟩, hk.1.2.2⟩)) hg hat); have n2_ := Aside0.mk (Kd.N_afterv (ok := (fun k_ => ((P0_ k_ ∨ P1_ k_) ∨ w.heap.size ≤ k_) ∧ some k_ ≠ (.slice Ao32 t140.length co32 : Value).ownBlock)) (by (with_reducible repeat (first | apply Kd.N_alloc | apply Kd.N_drewN | apply Kd.N_drew)); exact Kd.N_mono HO_9.out (fun _ hk => ⟨⟨hk.1.1, hk.2⟩, hk.1.2⟩)) hg hat); have n3_ := Aside0.mk (Kd.R_after (ok := (fun k_ => (w.heap.size ≤ k_))) (by (with_reducible repeat (first | apply Kd.R_alloc | apply Kd.R_drewN | apply Kd.R_drew)); exact Kd.R_mono HO143.out (fun _ hk => ⟨hk.1.1, hk.2⟩)) hg hat); have n4_ := Aside0.mk (hb); have n5_ := Aside0.mk (ho); clear HO_0; clear HO_1; clear HO_9; clear HO143; clear HB; clear HO_11; have HO_0 := n0_; have HO_1 := n1_; have HO_9 := n2_; have HO143 := n3_; have HB := n4_; have HO146 := n5_; clear n0_ n1_ n2_ n3_ n4_ n5_; clear ho hb hg hat))
                        go_ret2
                        exact ⟨_, by first | rfl | (simp [errW_none, errW_some] <;> rfl) | (simp [*, errW_none, errW_some] <;> rfl), by (with_reducible repeat (first | apply Kd.R_alloc | apply Kd.R_drewN | apply Kd.R_drew)); exact Kd.R_mono HO146.out (fun _ hk => hk.1), by repeat (first | (with_reducible first | exact HB.out | apply below_alloc | apply pw_below_drewN | apply below_drew1) | exact HB.out)⟩
                      · rw [if_neg c28] at H
                        have c28b0 : (x12_2 == (l0.length : Int)) = false := beq_eq_false_iff_ne.mpr c28
                        have c28b1 : (x12_2 != (l0.length : Int)) = true := bne_iff_ne.mpr c28
                        have H' := Aside0.mk H
                        clear H
                        obtain ⟨Ao33, co33, eo33⟩ := Kd.N_slice HO_9.out
                        subst eo33
                        go_wp2_with (first | ((with_reducible refine gate_callee (f := 50) rfl ?_); refine goesL_ (some 58) rfl rfl Try.func50 (by kernel_rfl) rfl #[.slice A1 l1.length c1, .slice Ao33 x9_1.length co33, .int .i64 x12_2] rfl (by (try simp only [List.map_toArray, List.map_cons, List.map_nil]); first | done | rfl | (simp only [List.length_drop, List.length_take]; rfl)) ?_; (with_reducible refine (sennitref20_ahead.calls k2 _ _ l1 _ _ x9_1 x12_2 t140 t141 _ ?side1 ?side2 ?side3 ?side4 A25.out).mono ?_); (case side1 => repeat (first | exact (Kd.V_reads' HO_1.out).2.2 | (with_reducible refine Kd.C_alloc ?_ _) | (with_reducible refine Kd.C_drewN ?_ _) | (with_reducible refine Kd.C_drew ?_))); (case side2 => exact (Kd.V_reads' HO_1.out).2.1); (case side3 => repeat (first | exact (Kd.N_reads' HO_9.out).2.2 | (with_reducible refine Kd.C_alloc ?_ _) | (with_reducible refine Kd.C_drewN ?_ _) | (with_reducible refine Kd.C_drew ?_))); (case side4 => exact (Kd.N_reads' HO_9.out).2.1); rintro e w34 ⟨v142, rfl, ho0, hb⟩; refine ⟨_, rfl, ?_⟩; have n0_ := Aside0.mk (Kd.V_elder' (by (with_reducible repeat (first | apply Kd.V_alloc | apply Kd.V_drewN | apply Kd.V_drew)); exact HO_0.out) (Kd.R_base ho0) hb); have n1_ := Aside0.mk (Kd.V_elder' (by (with_reducible repeat (first | apply Kd.V_alloc | apply Kd.V_drewN | apply Kd.V_drew)); exact HO_1.out) (Kd.R_base ho0) hb); have n2_ := Aside0.mk (Kd.N_elder' (by (with_reducible repeat (first | apply Kd.N_alloc | apply Kd.N_drewN | apply Kd.N_drew)); exact HO_9.out) (Kd.R_base ho0) hb); have n3_ := Aside0.mk (Kd.R_elder' (by (with_reducible repeat (first | apply Kd.R_alloc | apply Kd.R_drewN | apply Kd.R_drew)); exact HO_11.out) (Kd.R_base ho0) hb); have n4_ := Aside0.mk (Kd.R_lower (Kd.R_new' (Kd.R_newM (M := fun k_ => (w.heap.size ≤ k_)) ho0 (below_size (by repeat (first | (with_reducible first | exact HB.out | apply below_alloc | apply pw_below_drewN | apply below_drew1) | exact HB.out))) (fun k_ h_ => h_)) (Kd.R_lt (by (with_reducible repeat (first | apply Kd.R_alloc | apply Kd.R_drewN | apply Kd.R_drew)); exact HO_11.out))) (below_size (by repeat (first | (with_reducible first | exact HB.out | apply below_alloc | apply pw_below_drewN | apply below_drew1) | exact HB.out)))); have n5_ := Aside0.mk (below_step (by repeat (first | (with_reducible first | exact HB.out | apply below_alloc | apply pw_below_drewN | apply below_drew1) | exact HB.out)) hb); clear HO_0; clear HO_1; clear HO_9; clear HO_11; clear HB; have HO_0 := n0_; have HO_1 := n1_; have HO_9 := n2_; have HO_11 := n3_; have HO143 := n4_; have HB := n5_; clear n0_ n1_ n2_ n3_ n4_ n5_; (try clear hb); (try clear hb2); (try clear hk); (try clear hi); (try clear ho0); obtain ⟨Ao36, co36, eo36⟩ := Kd.R_slice HO143.out; subst eo36) | ((with_reducible refine gate_builtin (b := .append) (xs := #[.tmp 64, .tmp 65]) rfl ?_); at_builtin; refine Kd.R_append_rows k37 (w0 := w) w.heap.size rfl (.tmp 64) (.tmp 65) 25 37 (.agg #[(.string ⟨#[]⟩), (.string ⟨#[]⟩)]) 32 rfl Try.underlying25 info37 rfl (by decide) (by omega) u11 x11_2 t140 _ _ _ (fun k_ => (w.heap.size ≤ k_) ∧ some k_ ≠ (.slice Ao36 t140.length co36 : Value).ownBlock) (fun _ => False) rfl rfl ?aO ?aR (fun _ _ h => h) (fun _ h => h.elim) ?aF ?aB ?aS ?aL ?_; (case aR => repeat (first | exact (Kd.R_reads' HO143.out).2.2 | (with_reducible refine Kd.C_alloc ?_ _) | (with_reducible refine Kd.C_drewN ?_ _) | (with_reducible refine Kd.C_drew ?_))); (case aB => exact (by repeat (first | (with_reducible first | exact HB.out | apply below_alloc | apply pw_below_drewN | apply below_drew1) | exact HB.out))); (case aF => exact (fun k_ hk => ⟨(Nat.le_trans (below_size (by repeat (first | (with_reducible first | exact HB.out | apply below_alloc | apply pw_below_drewN | apply below_drew1) | exact HB.out))) hk), Kd.fresh' (Kd.R_lt (by (with_reducible repeat (first | apply Kd.R_alloc | apply Kd.R_drewN | apply Kd.R_drew)); exact HO143.out)) k_ hk⟩)); (case aO => exact (by (with_reducible repeat (first | apply Kd.R_alloc | apply Kd.R_drewN | apply Kd.R_drew)); exact HO_11.out)); (case aS => exact (below_size (by repeat (first | (with_reducible first | exact HB.out | apply below_alloc | apply pw_below_drewN | apply below_drew1) | exact HB.out)))); (case aL => have := LMc27.out; omega); intro v145 w35 ho hb hg hat; rw [← Ny144.out] at ho; have n0_ := Aside0.mk (Kd.V_afterv (ok := (fun k_ => ((P0_ k_ ∨ P1_ k_) ∨ w.heap.size ≤ k_) ∧ some k_ ≠ (.slice Ao33 x9_1.length co33 : Value).ownBlock ∧ some k_ ≠ (.slice Ao36 t140.length co36 : Value).ownBlock)) (by (with_reducible repeat (first | apply Kd.V_alloc | apply Kd.V_drewN | apply Kd.V_drew)); exact Kd.V_mono HO_0.out (fun _ hk => ⟨⟨hk.1.1, ⟨hk.1.2.1, hk.2⟩⟩, hk.1.2.2⟩)) hg hat); have n1_ := Aside0.mk (Kd.V_afterv (ok := (fun k_ => ((P0_ k_ ∨ P1_ k_) ∨ w.heap.size ≤ k_) ∧ some k_ ≠ (.slice Ao33 x9_1.length co33 : Value).ownBlock ∧ some k_ ≠ (.slice Ao36 t140.length co36 : Value).ownBlock)) (by (with_reducible repeat (first | apply Kd.V_alloc | apply Kd.V_drewN | apply Kd.V_drew)); exact Kd.V_mono HO_1.out (fun _ hk => ⟨⟨hk.1.1, ⟨hk.1.2.1, hk.2⟩⟩, hk.1.2.2⟩)) hg hat); have n2_ := Aside0.mk (Kd.N_afterv (ok := (fun k_ => ((P0_ k_ ∨ P1_ k_) ∨ w.heap.size ≤ k_) ∧ some k_ ≠ (.slice Ao36 t140.length co36 : Value).ownBlock)) (by (with_reducible repeat (first | apply Kd.N_alloc | apply Kd.N_drewN | apply Kd.N_drew)); exact Kd.N_mono HO_9.out (fun _ hk => ⟨⟨hk.1.1, hk.2⟩, hk.1.2⟩)) hg hat); have n3_ := Aside0.mk (Kd.R_after (ok := (fun k_ => (w.heap.size ≤ k_))) (by (with_reducible repeat (first | apply Kd.R_alloc | apply Kd.R_drewN | apply Kd.R_drew)); exact Kd.R_mono HO143.out (fun _ hk => ⟨hk.1.1, hk.2⟩)) hg hat); have n4_ := Aside0.mk (hb); have n5_ := Aside0.mk (ho); clear HO_0; clear HO_1; clear HO_9; clear HO143; clear HB; clear HO_11; have HO_0 := n0_; have HO_1 := n1_; have HO_9 := n2_; have HO143 := n3_; have HB := n4_; have HO146 := n5_; clear n0_ n1_ n2_ n3_ n4_ n5_; clear ho hb hg hat))
                        go_loopg [15, 16] k2 (fun kq v15 v16 w' => ∃ (x15_3 : ByteArray) (x16_3 : Int), v15 = .string x15_3 ∧ v16 = .int .i64 x16_3 ∧ Aside0 (sennitref20_Table.l2 kq l0 l1 x9_1 y144 x12_2 x15_3 x16_3 = some (r1, r2)) ∧ Aside0 (kq ≤ k2) ∧ Aside0 (Kd.V Kd.string 9 w' w.heap.size (fun k_ => ((P0_ k_ ∨ P1_ k_) ∨ w.heap.size ≤ k_) ∧ some k_ ≠ ((.slice Ao33 x9_1.length co33) : Value).ownBlock ∧ some k_ ≠ (v145 : Value).ownBlock) (.slice A0 l0.length c0) l0) ∧ Aside0 (Kd.V (Kd.slice 9 Kd.string) 34 w' w.heap.size (fun k_ => ((P0_ k_ ∨ P1_ k_) ∨ w.heap.size ≤ k_) ∧ some k_ ≠ ((.slice Ao33 x9_1.length co33) : Value).ownBlock ∧ some k_ ≠ (v145 : Value).ownBlock) (.slice A1 l1.length c1) l1) ∧ Aside0 (Kd.N (Kd.slice 3 (Kd.int .i64)) 49 w' w.heap.size (fun k_ => ((P0_ k_ ∨ P1_ k_) ∨ w.heap.size ≤ k_) ∧ some k_ ≠ (v145 : Value).ownBlock) (.slice Ao33 x9_1.length co33) x9_1) ∧ Aside0 (Kd.R k37 37 w' w.heap.size (fun k_ => (w.heap.size ≤ k_)) v145 y144) ∧ Aside0 (Below w.heap.size w w'))
                        case atStart => exact ⟨((⟨#[]⟩ : ByteArray)), (0), (by first | rfl | (simp; done) | (simp [*]; done)), (by first | rfl | (simp; done) | (simp [*]; done)), H', ⟨Nat.le_refl _⟩, ⟨by (with_reducible repeat (first | apply Kd.V_alloc | apply Kd.V_drewN | apply Kd.V_drew)); exact Kd.V_mono HO_0.out (fun _ hk => ⟨hk.1.1, ⟨hk.1.2.1, hk.2⟩⟩)⟩, ⟨by (with_reducible repeat (first | apply Kd.V_alloc | apply Kd.V_drewN | apply Kd.V_drew)); exact Kd.V_mono HO_1.out (fun _ hk => ⟨hk.1.1, ⟨hk.1.2.1, hk.2⟩⟩)⟩, ⟨by (with_reducible repeat (first | apply Kd.N_alloc | apply Kd.N_drewN | apply Kd.N_drew)); exact Kd.N_mono HO_9.out (fun _ hk => ⟨hk.1.1, hk.2⟩)⟩, ⟨by (with_reducible repeat (first | apply Kd.R_alloc | apply Kd.R_drewN | apply Kd.R_drew)); exact Kd.R_mono HO146.out (fun _ hk => hk.1)⟩, ⟨by repeat (first | (with_reducible first | exact HB.out | apply below_alloc | apply pw_below_drewN | apply below_drew1) | exact HB.out)⟩⟩
                        case round =>
                          clear H'
                          try clear c1
                          try clear p1
                          try clear q1
                          try clear hx1
                          try clear qi1
                          try clear c2
                          try clear p2
                          try clear c4
                          try clear c4b0
                          try clear c4b1
                          try clear c5
                          try clear p6
                          try clear c12
                          try clear c12b0
                          try clear c13
                          try clear c13b0
                          try clear c13b1
                          try clear p13
                          try clear q13
                          try clear hx13
                          try clear qi13
                          try clear c15
                          try clear c15b0
                          try clear c16
                          try clear c16b0
                          try clear c18
                          try clear c24
                          try clear c24b0
                          try clear c26
                          try clear c26b0
                          try clear c26b1
                          try clear c27
                          try clear c28
                          try clear c28b0
                          try clear c28b1
                          try clear hx132_0
                          try clear hx133_0
                          try clear p1
                          try clear p13
                          try clear p132
                          try clear p133
                          try clear p2
                          try clear p6
                          try clear q1
                          try clear q13
                          try clear q132
                          try clear q133
                          obtain ⟨x15_3, x16_3, rfl, rfl, HA, HK3, HO_0, HO_1, HO_9, HO_11, HB⟩ := hrel
                          cases gk with
                          | zero => exact absurd HA.out (by simp [sennitref20_Table.l2])
                          | succ k3 =>
                            have H := HA.out
                            clear HA
                            simp only [sennitref20_Table.l2] at H
                            by_cases c37 : x16_3 < (l1.length : Int)
                            · rw [if_pos c37] at H
                              have c37b0 : decide (x16_3 < (l1.length : Int)) = true := decide_eq_true c37
                              clear c37
                              by_cases c38 : 0 ≤ x16_3
                              · rw [if_pos c38] at H
                                have c38b0 : decide (0 ≤ x16_3) = true := decide_eq_true c38
                                clear c38
                                by_cases c39 : x16_3 < (x9_1.length : Int)
                                · rw [if_pos c39] at H
                                  have c39b0 : decide (x16_3 < (x9_1.length : Int)) = true := decide_eq_true c39
                                  clear c39
                                  by_cases c40 : 0 ≤ x12_2
                                  · rw [if_pos c40] at H
                                    have c40b0 : decide (0 ≤ x12_2) = true := decide_eq_true c40
                                    clear c40
                                    by_cases c41 : x12_2 < ((rd_L7 x9_1 x16_3).length : Int)
                                    · rw [if_pos c41] at H
                                      have c41b0 : decide (x12_2 < ((rd_L7 x9_1 x16_3).length : Int)) = true := decide_eq_true c41
                                      clear c41
                                      by_cases c42 : (rd (rd_L7 x9_1 x16_3) x12_2) ≥ 0
                                      · rw [if_pos c42] at H
                                        have c42b0 : decide (0 ≤ (rd (rd_L7 x9_1 x16_3) x12_2)) = true := decide_eq_true c42
                                        clear c42
                                        by_cases c43 : x15_3.size + 1 ≤ 9223372036854775807
                                        · rw [if_pos c43] at H
                                          have c43b0 := eq_true c43
                                          have c43b1 : decide (x15_3.size + 1 ≤ 9223372036854775807) = true := decide_eq_true c43
                                          try have c43b2 : (9223372036854775807 < x15_3.size + 1) = False := eq_false (Nat.not_lt.2 c43)
                                          have H' := Aside0.mk H
                                          clear H
                                          have p147 : 0 ≤ (x16_3 : Int) := of_decide_eq_true (by first | (with_reducible assumption) | assumption)
                                          have q147 : x16_3 < (x9_1.length : Int) := of_decide_eq_true (by first | (with_reducible assumption) | assumption)
                                          obtain ⟨ad147, A147_0, c147_0, e147, hx147_0, hl147_0, hi147_0⟩ := at_L7 (Kd.N_reads' HO_9.out).2.2 x16_3 p147 q147
                                          cases e147
                                          obtain ⟨ce147, hce147, hMe147, hcc147⟩ := Kd.N_get HO_9.out [] x16_3 p147 (by first | exact q147 | exact of_decide_eq_true (by first | (with_reducible assumption) | assumption) | (have e_ := (Kd.N_reads' HO_9.out).1; omega))
                                          obtain ⟨ua147_0, uc147_0, rfl, ul147_0, ge147_0⟩ := Kd.FK_slice_open hMe147
                                          have hv147_0 := hcc147 0 _ rfl
                                          rw [Nat.add_zero, show ((Kd.slice 3 (Kd.int .i64))).sz = 1 from rfl, Nat.mul_one] at hv147_0
                                          replace hv147_0 := Option.some.inj (hv147_0.symm.trans hx147_0)
                                          injection hv147_0 with hva_ hvn_ hvc_
                                          rw [hva_] at ge147_0
                                          rw [hvc_] at ul147_0
                                          have HL147_0 := Aside0.mk (show Kd.V (Kd.int .i64) 3 _ w.heap.size _ _ (rd_L7 x9_1 x16_3) from Kd.V_mk ul147_0 ge147_0)
                                          clear hva_ hvn_ hvc_ ge147_0 ul147_0
                                          clear hcc147 hce147
                                          have HR147_0 := Aside0.mk hi147_0
                                          have HC147_0 := Aside0.mk hl147_0
                                          clear hi147_0 hl147_0
                                          replace p147 := eq_true p147
                                          replace q147 := eq_true q147
                                          have p148 : 0 ≤ (x12_2 : Int) := of_decide_eq_true (by first | (with_reducible assumption) | assumption)
                                          have q148 : x12_2 < ((rd_L7 x9_1 x16_3).length : Int) := of_decide_eq_true (by first | (with_reducible assumption) | assumption)
                                          obtain ⟨ad148, e148, hx148_0⟩ := Kd.at_int (by repeat (first | (with_reducible exact HR147_0.out) | (with_reducible refine Kd.C_alloc ?_ _) | (with_reducible refine Kd.C_drewN ?_ _) | (with_reducible refine Kd.C_drew ?_) | exact HR147_0.out)) x12_2 p148 q148
                                          cases e148
                                          replace p148 := eq_true p148
                                          replace q148 := eq_true q148
                                          go_wp2
                                          go_roundg k3
                                          case measure => have := HK1.out; have := HK2.out; have := HK3.out; omega
                                          case rel => exact ⟨(x15_3 ++ (⟨#[32]⟩ : ByteArray)), (wrap64 (x16_3 + 1)), (by first | rfl | (simp; done) | (simp [*]; done)), (by first | rfl | (simp; done) | (simp [*]; done)), H', ⟨by have := HK1.out; have := HK2.out; have := HK3.out; omega⟩, ⟨by (with_reducible repeat (first | apply Kd.V_alloc | apply Kd.V_drewN | apply Kd.V_drew)); exact HO_0.out⟩, ⟨by (with_reducible repeat (first | apply Kd.V_alloc | apply Kd.V_drewN | apply Kd.V_drew)); exact HO_1.out⟩, ⟨by (with_reducible repeat (first | apply Kd.N_alloc | apply Kd.N_drewN | apply Kd.N_drew)); exact HO_9.out⟩, ⟨by (with_reducible repeat (first | apply Kd.R_alloc | apply Kd.R_drewN | apply Kd.R_drew)); exact HO_11.out⟩, ⟨by repeat (first | (with_reducible first | exact HB.out | apply below_alloc | apply pw_below_drewN | apply below_drew1) | exact HB.out)⟩⟩
                                        · rw [if_neg c43] at H
                                          exact absurd H (by simp)
                                      · rw [if_neg c42] at H
                                        have c42b0 : decide (0 ≤ (rd (rd_L7 x9_1 x16_3) x12_2)) = false := decide_eq_false c42
                                        clear c42
                                        by_cases c44 : x15_3.size + 1 ≤ 9223372036854775807
                                        · rw [if_pos c44] at H
                                          have c44b0 := eq_true c44
                                          have c44b1 : decide (x15_3.size + 1 ≤ 9223372036854775807) = true := decide_eq_true c44
                                          try have c44b2 : (9223372036854775807 < x15_3.size + 1) = False := eq_false (Nat.not_lt.2 c44)
                                          have H' := Aside0.mk H
                                          clear H
                                          have p147 : 0 ≤ (x16_3 : Int) := of_decide_eq_true (by first | (with_reducible assumption) | assumption)
                                          have q147 : x16_3 < (x9_1.length : Int) := of_decide_eq_true (by first | (with_reducible assumption) | assumption)
                                          obtain ⟨ad147, A147_0, c147_0, e147, hx147_0, hl147_0, hi147_0⟩ := at_L7 (Kd.N_reads' HO_9.out).2.2 x16_3 p147 q147
                                          cases e147
                                          obtain ⟨ce147, hce147, hMe147, hcc147⟩ := Kd.N_get HO_9.out [] x16_3 p147 (by first | exact q147 | exact of_decide_eq_true (by first | (with_reducible assumption) | assumption) | (have e_ := (Kd.N_reads' HO_9.out).1; omega))
                                          obtain ⟨ua147_0, uc147_0, rfl, ul147_0, ge147_0⟩ := Kd.FK_slice_open hMe147
                                          have hv147_0 := hcc147 0 _ rfl
                                          rw [Nat.add_zero, show ((Kd.slice 3 (Kd.int .i64))).sz = 1 from rfl, Nat.mul_one] at hv147_0
                                          replace hv147_0 := Option.some.inj (hv147_0.symm.trans hx147_0)
                                          injection hv147_0 with hva_ hvn_ hvc_
                                          rw [hva_] at ge147_0
                                          rw [hvc_] at ul147_0
                                          have HL147_0 := Aside0.mk (show Kd.V (Kd.int .i64) 3 _ w.heap.size _ _ (rd_L7 x9_1 x16_3) from Kd.V_mk ul147_0 ge147_0)
                                          clear hva_ hvn_ hvc_ ge147_0 ul147_0
                                          clear hcc147 hce147
                                          have HR147_0 := Aside0.mk hi147_0
                                          have HC147_0 := Aside0.mk hl147_0
                                          clear hi147_0 hl147_0
                                          replace p147 := eq_true p147
                                          replace q147 := eq_true q147
                                          have p148 : 0 ≤ (x12_2 : Int) := of_decide_eq_true (by first | (with_reducible assumption) | assumption)
                                          have q148 : x12_2 < ((rd_L7 x9_1 x16_3).length : Int) := of_decide_eq_true (by first | (with_reducible assumption) | assumption)
                                          obtain ⟨ad148, e148, hx148_0⟩ := Kd.at_int (by repeat (first | (with_reducible exact HR147_0.out) | (with_reducible refine Kd.C_alloc ?_ _) | (with_reducible refine Kd.C_drewN ?_ _) | (with_reducible refine Kd.C_drew ?_) | exact HR147_0.out)) x12_2 p148 q148
                                          cases e148
                                          replace p148 := eq_true p148
                                          replace q148 := eq_true q148
                                          go_wp2
                                          go_roundg k3
                                          case measure => have := HK1.out; have := HK2.out; have := HK3.out; omega
                                          case rel => exact ⟨(x15_3 ++ (⟨#[43]⟩ : ByteArray)), (wrap64 (x16_3 + 1)), (by first | rfl | (simp; done) | (simp [*]; done)), (by first | rfl | (simp; done) | (simp [*]; done)), H', ⟨by have := HK1.out; have := HK2.out; have := HK3.out; omega⟩, ⟨by (with_reducible repeat (first | apply Kd.V_alloc | apply Kd.V_drewN | apply Kd.V_drew)); exact HO_0.out⟩, ⟨by (with_reducible repeat (first | apply Kd.V_alloc | apply Kd.V_drewN | apply Kd.V_drew)); exact HO_1.out⟩, ⟨by (with_reducible repeat (first | apply Kd.N_alloc | apply Kd.N_drewN | apply Kd.N_drew)); exact HO_9.out⟩, ⟨by (with_reducible repeat (first | apply Kd.R_alloc | apply Kd.R_drewN | apply Kd.R_drew)); exact HO_11.out⟩, ⟨by repeat (first | (with_reducible first | exact HB.out | apply below_alloc | apply pw_below_drewN | apply below_drew1) | exact HB.out)⟩⟩
                                        · rw [if_neg c44] at H
                                          exact absurd H (by simp)
                                    · rw [if_neg c41] at H
                                      exact absurd H (by simp)
                                  · rw [if_neg c40] at H
                                    exact absurd H (by simp)
                                · rw [if_neg c39] at H
                                  exact absurd H (by simp)
                              · rw [if_neg c38] at H
                                exact absurd H (by simp)
                            · rw [if_neg c37] at H
                              have c37b0 : decide (x16_3 < (l1.length : Int)) = false := decide_eq_false c37
                              clear c37
                              by_cases c45 : 0 ≤ x12_2
                              · rw [if_pos c45] at H
                                have c45b0 : decide (0 ≤ x12_2) = true := decide_eq_true c45
                                clear c45
                                by_cases c46 : x12_2 < (l0.length : Int)
                                · rw [if_pos c46] at H
                                  have c46b0 : decide (x12_2 < (l0.length : Int)) = true := decide_eq_true c46
                                  clear c46
                                  by_cases c47 : y144.length < 4398046511104
                                  · rw [if_pos c47] at H
                                    have LMc47 := Aside0.mk c47
                                    clear c47
                                    obtain ⟨y150, hy150⟩ : ∃ y_ : List (S37), y_ = (y144 ++ [(⟨x15_3, rdOf ByteArray.empty l0 x12_2⟩ : S37)]) := ⟨_, rfl⟩
                                    replace H : (sennitref20_Table.l1 k3 l0 l1 x9_1 y150 (wrap64 (x12_2 + 1))) = some (r1, r2) := by first | (rw [hy150]; with_reducible exact H) | (have H2_ := (Option.bind_some _ _).symm.trans H; rw [hy150]; with_reducible exact H2_) | (have H2_ := (Option.bind_some _ _).symm.trans H; with_reducible exact H2_) | with_reducible exact H | (rw [hy150]; exact H) | exact H
                                    have Ny150 := Aside0.mk hy150
                                    clear hy150
                                    have H' := Aside0.mk H
                                    clear H
                                    have p149 : 0 ≤ (x12_2 : Int) := of_decide_eq_true (by first | (with_reducible assumption) | assumption)
                                    have q149 : x12_2 < (l0.length : Int) := of_decide_eq_true (by first | (with_reducible assumption) | assumption)
                                    obtain ⟨ad149, e149, hx149_0⟩ := Kd.at_string (Kd.V_reads' HO_0.out).2.2 x12_2 p149 q149
                                    cases e149
                                    replace p149 := eq_true p149
                                    replace q149 := eq_true q149
                                    go_wp2_with (first | ((with_reducible refine gate_builtin (b := .append) (xs := #[.tmp 90, .tmp 97]) rfl ?_); at_builtin; refine Kd.R_append k37 (w0 := w) w.heap.size rfl (.tmp 90) (.tmp 97) 25 37 (.agg #[(.string ⟨#[]⟩), (.string ⟨#[]⟩)]) 32 rfl Try.underlying25 info37 rfl (by decide) (by omega) v145 y144 (⟨x15_3, rdOf ByteArray.empty l0 x12_2⟩ : S37) [.string x15_3, .string (rdOf ByteArray.empty l0 x12_2)] (fun k_ => (w.heap.size ≤ k_)) (fun _ => False) rfl rfl ?aP (fun _ hk => hk.elim) ?aF ?aO ?aB ?aS ?aL ?_; (case aP => exact k37_mkM _ _ _ (⟨x15_3, rdOf ByteArray.empty l0 x12_2⟩ : S37)); (case aB => exact (by repeat (first | (with_reducible first | exact HB.out | apply below_alloc | apply pw_below_drewN | apply below_drew1) | exact HB.out))); (case aF => exact (fun k_ hk => (Nat.le_trans (below_size (by repeat (first | (with_reducible first | exact HB.out | apply below_alloc | apply pw_below_drewN | apply below_drew1) | exact HB.out))) hk))); (case aO => exact (by (with_reducible repeat (first | apply Kd.R_alloc | apply Kd.R_drewN | apply Kd.R_drew)); exact HO_11.out)); (case aS => exact (below_size (by repeat (first | (with_reducible first | exact HB.out | apply below_alloc | apply pw_below_drewN | apply below_drew1) | exact HB.out)))); (case aL => have := LMc47.out; omega); intro v151 w48 ho hb hg hat; rw [← Ny150.out] at ho; have n0_ := Aside0.mk (Kd.V_afterv (ok := (fun k_ => ((P0_ k_ ∨ P1_ k_) ∨ w.heap.size ≤ k_) ∧ some k_ ≠ (.slice Ao33 x9_1.length co33 : Value).ownBlock)) (by (with_reducible repeat (first | apply Kd.V_alloc | apply Kd.V_drewN | apply Kd.V_drew)); exact Kd.V_mono HO_0.out (fun _ hk => ⟨⟨hk.1, hk.2.1⟩, hk.2.2⟩)) hg hat); have n1_ := Aside0.mk (Kd.V_afterv (ok := (fun k_ => ((P0_ k_ ∨ P1_ k_) ∨ w.heap.size ≤ k_) ∧ some k_ ≠ (.slice Ao33 x9_1.length co33 : Value).ownBlock)) (by (with_reducible repeat (first | apply Kd.V_alloc | apply Kd.V_drewN | apply Kd.V_drew)); exact Kd.V_mono HO_1.out (fun _ hk => ⟨⟨hk.1, hk.2.1⟩, hk.2.2⟩)) hg hat); have n2_ := Aside0.mk (Kd.N_afterv (ok := (fun k_ => ((P0_ k_ ∨ P1_ k_) ∨ w.heap.size ≤ k_))) (by (with_reducible repeat (first | apply Kd.N_alloc | apply Kd.N_drewN | apply Kd.N_drew)); exact HO_9.out) hg hat); have n3_ := Aside0.mk (hb); have n4_ := Aside0.mk (ho); clear HO_0; clear HO_1; clear HO_9; clear HB; clear HO_11; have HO_0 := n0_; have HO_1 := n1_; have HO_9 := n2_; have HB := n3_; have HO152 := n4_; clear n0_ n1_ n2_ n3_ n4_; clear ho hb hg hat))
                                    go_roundg k3
                                    case measure => have := HK1.out; have := HK2.out; have := HK3.out; omega
                                    case rel => exact ⟨(y150), (wrap64 (x12_2 + 1)), (by first | rfl | (simp; done) | (simp [*]; done)), H', ⟨by have := HK1.out; have := HK2.out; have := HK3.out; omega⟩, ⟨by (with_reducible repeat (first | apply Kd.V_alloc | apply Kd.V_drewN | apply Kd.V_drew)); exact Kd.V_mono HO_0.out (fun _ hk => ⟨hk.1.1, ⟨hk.1.2, hk.2⟩⟩)⟩, ⟨by (with_reducible repeat (first | apply Kd.V_alloc | apply Kd.V_drewN | apply Kd.V_drew)); exact Kd.V_mono HO_1.out (fun _ hk => ⟨hk.1.1, ⟨hk.1.2, hk.2⟩⟩)⟩, ⟨by (with_reducible repeat (first | apply Kd.N_alloc | apply Kd.N_drewN | apply Kd.N_drew)); exact HO_9.out⟩, ⟨by (with_reducible repeat (first | apply Kd.R_alloc | apply Kd.R_drewN | apply Kd.R_drew)); exact HO152.out⟩, ⟨by repeat (first | (with_reducible first | exact HB.out | apply below_alloc | apply pw_below_drewN | apply below_drew1) | exact HB.out)⟩⟩
                                  · rw [if_neg c47] at H
                                    exact absurd H (by simp)
                                · rw [if_neg c46] at H
                                  exact absurd H (by simp)
                              · rw [if_neg c45] at H
                                exact absurd H (by simp)
                    · rw [if_neg c27] at H
                      exact absurd H (by simp)
                  · rw [if_neg c26] at H
                    have c26b0 : (t141 == 0) = false := beq_eq_false_iff_ne.mpr c26
                    have c26b1 : (t141 != 0) = true := bne_iff_ne.mpr c26
                    simp only [Option.some.injEq, Prod.mk.injEq] at H
                    obtain ⟨rfl, rfl⟩ := H
                    obtain ⟨Ao49, co49, eo49⟩ := Kd.N_slice HO_9.out
                    subst eo49
                    go_wp2_with (first | ((with_reducible refine gate_callee (f := 50) rfl ?_); refine goesL_ (some 58) rfl rfl Try.func50 (by kernel_rfl) rfl #[.slice A1 l1.length c1, .slice Ao49 x9_1.length co49, .int .i64 x12_2] rfl (by (try simp only [List.map_toArray, List.map_cons, List.map_nil]); first | done | rfl | (simp only [List.length_drop, List.length_take]; rfl)) ?_; (with_reducible refine (sennitref20_ahead.calls k2 _ _ l1 _ _ x9_1 x12_2 t140 t141 _ ?side1 ?side2 ?side3 ?side4 A25.out).mono ?_); (case side1 => repeat (first | exact (Kd.V_reads' HO_1.out).2.2 | (with_reducible refine Kd.C_alloc ?_ _) | (with_reducible refine Kd.C_drewN ?_ _) | (with_reducible refine Kd.C_drew ?_))); (case side2 => exact (Kd.V_reads' HO_1.out).2.1); (case side3 => repeat (first | exact (Kd.N_reads' HO_9.out).2.2 | (with_reducible refine Kd.C_alloc ?_ _) | (with_reducible refine Kd.C_drewN ?_ _) | (with_reducible refine Kd.C_drew ?_))); (case side4 => exact (Kd.N_reads' HO_9.out).2.1); rintro e w50 ⟨v142, rfl, ho0, hb⟩; refine ⟨_, rfl, ?_⟩; have n0_ := Aside0.mk (Kd.V_elder' (by (with_reducible repeat (first | apply Kd.V_alloc | apply Kd.V_drewN | apply Kd.V_drew)); exact HO_0.out) (Kd.R_base ho0) hb); have n1_ := Aside0.mk (Kd.V_elder' (by (with_reducible repeat (first | apply Kd.V_alloc | apply Kd.V_drewN | apply Kd.V_drew)); exact HO_1.out) (Kd.R_base ho0) hb); have n2_ := Aside0.mk (Kd.N_elder' (by (with_reducible repeat (first | apply Kd.N_alloc | apply Kd.N_drewN | apply Kd.N_drew)); exact HO_9.out) (Kd.R_base ho0) hb); have n3_ := Aside0.mk (Kd.R_elder' (by (with_reducible repeat (first | apply Kd.R_alloc | apply Kd.R_drewN | apply Kd.R_drew)); exact HO_11.out) (Kd.R_base ho0) hb); have n4_ := Aside0.mk (Kd.R_lower (Kd.R_new' (Kd.R_newM (M := fun k_ => (w.heap.size ≤ k_)) ho0 (below_size (by repeat (first | (with_reducible first | exact HB.out | apply below_alloc | apply pw_below_drewN | apply below_drew1) | exact HB.out))) (fun k_ h_ => h_)) (Kd.R_lt (by (with_reducible repeat (first | apply Kd.R_alloc | apply Kd.R_drewN | apply Kd.R_drew)); exact HO_11.out))) (below_size (by repeat (first | (with_reducible first | exact HB.out | apply below_alloc | apply pw_below_drewN | apply below_drew1) | exact HB.out)))); have n5_ := Aside0.mk (below_step (by repeat (first | (with_reducible first | exact HB.out | apply below_alloc | apply pw_below_drewN | apply below_drew1) | exact HB.out)) hb); clear HO_0; clear HO_1; clear HO_9; clear HO_11; clear HB; have HO_0 := n0_; have HO_1 := n1_; have HO_9 := n2_; have HO_11 := n3_; have HO143 := n4_; have HB := n5_; clear n0_ n1_ n2_ n3_ n4_ n5_; (try clear hb); (try clear hb2); (try clear hk); (try clear hi); (try clear ho0)))
                    go_ret2
                    exact ⟨_, by first | rfl | (simp [errW_none, errW_some] <;> rfl) | (simp [*, errW_none, errW_some] <;> rfl), by first | exact Kd.R_nil _ _ _ _ _ | exact Kd.N_nil _ _ _ _ _ | exact Kd.V_nil _ _ _ _ _ | exact Kd.Q_nil _ _ _ _ _ | exact Kd.S_nil _ _ _ _ _, by repeat (first | (with_reducible first | exact HB.out | apply below_alloc | apply pw_below_drewN | apply below_drew1) | exact HB.out)⟩
                · rw [if_neg c24] at H
                  have c24b0 : decide (x12_2 ≤ (l0.length : Int)) = false := decide_eq_false c24
                  clear c24
                  simp only [Option.some.injEq, Prod.mk.injEq] at H
                  obtain ⟨rfl, rfl⟩ := H
                  go_wp2
                  go_ret2
                  exact ⟨_, by first | rfl | (simp [errW_none, errW_some] <;> rfl) | (simp [*, errW_none, errW_some] <;> rfl), by (with_reducible repeat (first | apply Kd.R_alloc | apply Kd.R_drewN | apply Kd.R_drew)); exact HO_11.out, by repeat (first | (with_reducible first | exact HB.out | apply below_alloc | apply pw_below_drewN | apply below_drew1) | exact HB.out)⟩
    · rw [if_neg c5] at H
      exact absurd H (by simp)
  · rw [if_neg c4] at H
    have c4b0 : (t122 == 0) = false := beq_eq_false_iff_ne.mpr c4
    have c4b1 : (t122 != 0) = true := bne_iff_ne.mpr c4
    simp only [Option.some.injEq, Prod.mk.injEq] at H
    obtain ⟨rfl, rfl⟩ := H
    go_enter Try.func26, Try.ntmps26
    go_wp2_with (first | ((with_reducible refine gate_callee (f := 47) rfl ?_); refine goesL_ (some 19) rfl rfl Try.func47 (by kernel_rfl) rfl #[.slice A0 l0.length c0, .slice A1 l1.length c1] rfl (by (try simp only [List.map_toArray, List.map_cons, List.map_nil]); first | done | rfl | (simp only [List.length_drop, List.length_take]; rfl)) ?_; (with_reducible refine (sennitref20_wrong.calls k _ _ l0 _ _ l1 t122 _ ?side1 ?side2 ?side3 ?side4 A3.out).mono ?_); (case side1 => repeat (first | exact (Kd.V_reads' HO0.out).2.2 | (with_reducible refine Kd.C_alloc ?_ _) | (with_reducible refine Kd.C_drewN ?_ _) | (with_reducible refine Kd.C_drew ?_))); (case side2 => exact (Kd.V_reads' HO0.out).2.1); (case side3 => repeat (first | exact (Kd.V_reads' HO1.out).2.2 | (with_reducible refine Kd.C_alloc ?_ _) | (with_reducible refine Kd.C_drewN ?_ _) | (with_reducible refine Kd.C_drew ?_))); (case side4 => exact (Kd.V_reads' HO1.out).2.1); rintro e w' ⟨rfl, ⟨nd, rfl⟩⟩; refine ⟨_, rfl, ?_⟩))
    go_ret2
    exact ⟨_, by first | rfl | (simp [errW_none, errW_some] <;> rfl) | (simp [*, errW_none, errW_some] <;> rfl), by first | exact Kd.R_nil _ _ _ _ _ | exact Kd.N_nil _ _ _ _ _ | exact Kd.V_nil _ _ _ _ _ | exact Kd.Q_nil _ _ _ _ _ | exact Kd.S_nil _ _ _ _ _, by repeat (first | (with_reducible first | exact HB.out | apply below_alloc | apply pw_below_drewN | apply below_drew1) | exact HB.out)⟩

end Go.Proofs.Ytnlekganlliikaa.X
-- part XKit
namespace Go.Proofs.Ytnlekganlliikaa.X
open Go.RowKit Go.Proofs.YtnlekganlliikaaW.PrintWords Go.Proofs.YtnlekganlliikaaW.PrintLast Go.Proofs.YtnlekganlliikaaW.PrintMore
set_option linter.unusedVariables false
set_option linter.unusedSimpArgs false
/-- A block of known cells, read as a row. -/
theorem C_blk {α : Type} {d : Kd α} {W : World} {g : Nat} {t : TypeId} {fr : Nat × Nat} {xs : List α} {inner : List Value} (h : W.heap[g]? = some (.cells inner.toArray t fr)) (hr : Reps (d.K W) d.sz xs inner) (hl : xs.length ≤ 9223372036854775807) : d.C W (some ⟨g, 0, none⟩) xs.length xs := by
  refine ⟨rfl, hl, fun _ => ⟨_, rfl, fun j p hj => ⟨_, ?_, hr.2 j p hj, fun i u hu => ?_⟩⟩⟩
  · have hjl := (List.getElem?_eq_some_iff.1 hj).1
    have h1 : j * d.sz + d.sz ≤ inner.length := by rw [hr.1, ← Nat.succ_mul]; exact Nat.mul_le_mul_right _ hjl
    rw [List.length_take, List.length_drop]; omega
  · have hil := (List.getElem?_eq_some_iff.1 hu).1
    rw [List.length_take] at hil
    rw [List.getElem?_take_of_lt (by omega), List.getElem?_drop] at hu
    have : W.cell? ⟨g, j * d.sz + i, none⟩ = some u := by rw [cell_of_row W g _ _ t fr h]; simpa using hu
    obtain ⟨q, hq⟩ : ∃ q, j * d.sz + i = q := ⟨_, rfl⟩
    rw [hq] at this ⊢
    by_cases e : q = 0
    · subst e; simpa [Addr.add] using this
    · simpa [Addr.add, e] using this
/-- A step of a call that keeps the old: as seen from the law's world. -/
theorem far_ {W w w' : World} (h : Below W.heap.size W w) (hb : Below w.heap.size w w') : Below W.heap.size W w' := h.trans (hb.mono h.size)
/-- An element that is a slice. -/
theorem at_slice {α : Type} {e : Nat} {d : Kd α} {w : World} {A : Option Addr} {n : Nat} {xs : List (List α)} (h : (Kd.slice e d).C w A n xs) (i : Nat) (hi : i < n) :
    ∃ ad A0 c0, A = some ad ∧ w.cell? (ad.add i) = some (.slice A0 (xs.getD i []).length c0) ∧ (xs.getD i []).length ≤ c0 ∧ d.C w A0 (xs.getD i []).length (xs.getD i []) := by
  obtain ⟨ad, c, e1, _, ⟨A0, c0, e2, e3, e4⟩, e5⟩ := ReadsRow.get_ h [] (i : Int) (by omega) (by omega)
  rw [Int.toNat_natCast] at e2 e3 e4 e5
  subst e2
  have := e5 0 _ rfl
  rw [show i * (Kd.slice e d).sz + 0 = i from by rw [show (Kd.slice e d).sz = 1 from rfl]; omega] at this
  exact ⟨ad, A0, c0, e1, this, e3, e4⟩
theorem at_str {w : World} {A : Option Addr} {n : Nat} {xs : List ByteArray} (h : Kd.string.C w A n xs) (i : Nat) (hi : i < n) : ∃ ad, A = some ad ∧ w.cell? (ad.add i) = some (.string (xs.getD i ByteArray.empty)) := by
  obtain ⟨ad, e, hc⟩ := Kd.at_string h (i : Int) (by omega) (by omega)
  rw [Int.toNat_natCast] at hc
  refine ⟨ad, e, ?_⟩
  rw [hc, rdOf, Int.toNat_natCast]
theorem at_num {k : IntKind} {w : World} {A : Option Addr} {n : Nat} {xs : List Int} (h : (Kd.int k).C w A n xs) (i : Nat) (hi : i < n) : ∃ ad, A = some ad ∧ w.cell? (ad.add i) = some (.int k (xs.getD i 0)) := by
  obtain ⟨ad, e, hc⟩ := Kd.at_int h (i : Int) (by omega) (by omega)
  rw [Int.toNat_natCast] at hc
  refine ⟨ad, e, ?_⟩
  rw [hc, rd, Int.toNat_natCast]
theorem getD_get {α : Type} {d : α} {l : List α} {i : Nat} (h : i < l.length) : l.getD i d = l[i] := by simp [h]
theorem C_cap {α : Type} {d : Kd α} {w : World} {A : Option Addr} {n : Nat} {xs : List α} (h : d.C w A n xs) : xs.length = n := h.1
end Go.Proofs.Ytnlekganlliikaa.X
-- part XHeld
namespace Go.Proofs.Ytnlekganlliikaa.X
open Go.RowKit Go.Proofs.YtnlekganlliikaaW.PrintWords Go.Proofs.YtnlekganlliikaaW.PrintLast Go.Proofs.YtnlekganlliikaaW.PrintMore
set_option linter.unusedVariables false
set_option linter.unusedSimpArgs false
/-- A kind, read at one world. -/
def heldK {α : Type} (w0 : World) (d : Kd α) : Kd α where
  sz := d.sz
  E := []
  K := fun _ x cs => d.K w0 x cs
  M := fun _ _ _ x cs => d.K w0 x cs
  K_len := fun h => d.K_len h
  K_one := fun h => d.K_one h
  K_below := fun _ h => h
  K_of_M := fun h => h
  M_mono := fun _ h => h
  M_bound := fun h => h
  M_move := fun _ h => h
  M_lower := fun _ h => h
section
variable {α : Type} {d : Kd α} {w0 w w1 : World} {A : Option Addr} {n e base : Nat} {ok : Nat → Prop} {v : Value} {xs : List α}
theorem held_C (h : d.C w0 A n xs) (hb : Below w0.heap.size w0 w) : (heldK w0 d).C w A n xs := by
  refine ⟨h.1, h.2.1, fun hn => ?_⟩
  obtain ⟨ad, e, hc⟩ := h.2.2 hn
  refine ⟨ad, e, fun j p hj => ?_⟩
  obtain ⟨c, h1, h2, h3⟩ := hc j p hj
  exact ⟨c, h1, h2, fun i u hu => (hb.cell (World.block_lt_of_cell? w0 _ (h3 i u hu))).trans (h3 i u hu)⟩
theorem C_held (h : (heldK w0 d).C w A n xs) (hb : Below w0.heap.size w0 w) : d.C w A n xs := by
  refine ⟨h.1, h.2.1, fun hn => ?_⟩
  obtain ⟨ad, e, hc⟩ := h.2.2 hn
  refine ⟨ad, e, fun j p hj => ?_⟩
  obtain ⟨c, h1, h2, h3⟩ := hc j p hj
  exact ⟨c, h1, d.K_below hb h2, h3⟩
theorem R_held_reads (h : (heldK w0 d).R e w base ok v xs) (hb : Below w0.heap.size w0 w) : ∃ A c, v = .slice A xs.length c ∧ xs.length ≤ c ∧ d.C w A xs.length xs := by
  obtain ⟨A, c, rfl, hl, hC⟩ := Kd.R_reads h
  exact ⟨A, c, rfl, hl, C_held hC hb⟩
end
/-- A list of texts as an element: its slice. -/
theorem strs_K {w : World} {A : Option Addr} {c : Nat} {l : List ByteArray} (h : Kd.C Kd.string w A l.length l) (hc : l.length ≤ c) : (Kd.slice 9 Kd.string).K w l [.slice A l.length c] := ⟨A, c, rfl, hc, h⟩
theorem strs_nil (w : World) : (Kd.slice 9 Kd.string).K w [] [.slice none 0 0] := ⟨none, 0, rfl, Nat.le_refl _, Kd.C_nil _ _⟩
end Go.Proofs.Ytnlekganlliikaa.X
-- part XInternMath
namespace Go.Proofs.Ytnlekganlliikaa.X
set_option linter.unusedVariables false
set_option linter.unusedSimpArgs false
/-- Where a text stands first; behind all, if it doesn't. -/
def place (s : ByteArray) : List ByteArray → Nat
  | [] => 0
  | x :: xs => if x = s then 0 else place s xs + 1
/-- A table, and one text more, if it is new. -/
def addT (t : List ByteArray) (s : ByteArray) : List ByteArray := if place s t < t.length then t else t ++ [s]
theorem place_le (s : ByteArray) : ∀ t, place s t ≤ t.length
  | [] => Nat.le_refl _
  | x :: xs => by
    have := place_le s xs
    simp only [place, List.length_cons]
    split <;> omega
theorem place_get (s : ByteArray) : ∀ {t : List ByteArray} (h : place s t < t.length), t[place s t] = s
  | [], h => by simp [place] at h
  | x :: xs, h => by
    by_cases e : x = s
    · simp [place, e]
    · have h' : place s xs < xs.length := by simpa [place, e] using h
      simp only [place, e, if_false, List.getElem_cons_succ]
      exact place_get s h'
theorem place_mem (s : ByteArray) : ∀ {t : List ByteArray}, s ∈ t ↔ place s t < t.length
  | [] => by simp [place]
  | x :: xs => by
    by_cases e : x = s
    · simp [place, e]
    · have e' : ¬ s = x := fun h => e h.symm
      simp [place, e, e', place_mem s (t := xs)]
theorem place_append (s : ByteArray) : ∀ {t : List ByteArray} (u : List ByteArray), place s t < t.length → place s (t ++ u) = place s t
  | [], u, h => by simp [place] at h
  | x :: xs, u, h => by
    by_cases e : x = s
    · simp [place, e]
    · have h' : place s xs < xs.length := by simpa [place, e] using h
      simp [place, e, place_append s u h']
theorem place_new (s : ByteArray) : ∀ {t : List ByteArray} (u : List ByteArray), ¬ place s t < t.length → place s (t ++ s :: u) = t.length
  | [], u, h => by simp [place]
  | x :: xs, u, h => by
    by_cases e : x = s
    · simp [place, e] at h
    · have h' : ¬ place s xs < xs.length := by simpa [place, e] using h
      simp [place, e, place_new s u h']
theorem place_not {s : ByteArray} {t : List ByteArray} (h : ¬ place s t < t.length) : place s t = t.length := by
  have := place_le s t; omega
theorem addT_length (t : List ByteArray) (s : ByteArray) : t.length ≤ (addT t s).length ∧ (addT t s).length ≤ t.length + 1 := by
  unfold addT; split <;> simp
/-- The numbers of some texts, and the table then. -/
def idsOne : List ByteArray → List ByteArray → List ByteArray × List Int
  | t, [] => (t, [])
  | t, s :: l => ((idsOne (addT t s) l).1, (place s t : Int) :: (idsOne (addT t s) l).2)
def idsMany : List ByteArray → List (List ByteArray) → List (List Int)
  | _, [] => []
  | t, l :: ls => (idsOne t l).2 :: idsMany (idsOne t l).1 ls
/-- The numbers of all texts of some files. -/
def idsAll (files : List (List ByteArray)) : List (List Int) := idsMany [] files
theorem idsOne_length : ∀ (t l : List ByteArray), (idsOne t l).2.length = l.length
  | t, [] => rfl
  | t, s :: l => by simp [idsOne, idsOne_length (addT t s) l]
theorem idsOne_snoc : ∀ (t l : List ByteArray) (s : ByteArray), idsOne t (l ++ [s]) = (addT (idsOne t l).1 s, (idsOne t l).2 ++ [(place s (idsOne t l).1 : Int)])
  | t, [], s => by simp [idsOne]
  | t, x :: l, s => by simp [idsOne, idsOne_snoc (addT t x) l s]
theorem idsOne_table_le : ∀ (t l : List ByteArray), (idsOne t l).1.length ≤ t.length + l.length
  | t, [] => by simp [idsOne]
  | t, s :: l => by
    have h1 := idsOne_table_le (addT t s) l
    have h2 := (addT_length t s).2
    simp only [idsOne, List.length_cons]; omega
theorem idsMany_length : ∀ (t : List ByteArray) (ls : List (List ByteArray)), (idsMany t ls).length = ls.length
  | _, [] => rfl
  | t, l :: ls => by simp [idsMany, idsMany_length (idsOne t l).1 ls]
/-- The table behind some files. -/
def tabOf : List ByteArray → List (List ByteArray) → List ByteArray
  | t, [] => t
  | t, l :: ls => tabOf (idsOne t l).1 ls
theorem tabOf_snoc : ∀ (t : List ByteArray) (ls : List (List ByteArray)) (l : List ByteArray), tabOf t (ls ++ [l]) = (idsOne (tabOf t ls) l).1
  | t, [], l => rfl
  | t, x :: ls, l => tabOf_snoc (idsOne t x).1 ls l
theorem idsMany_snoc : ∀ (t : List ByteArray) (ls : List (List ByteArray)) (l : List ByteArray), idsMany t (ls ++ [l]) = idsMany t ls ++ [(idsOne (tabOf t ls) l).2]
  | t, [], l => rfl
  | t, x :: ls, l => by simp [idsMany, tabOf, idsMany_snoc (idsOne t x).1 ls l]
end Go.Proofs.Ytnlekganlliikaa.X
-- part XLcsMath
namespace Go.Proofs.Ytnlekganlliikaa.X
/-- How long the longest common sequence is. -/
def lcsL : List Int → List Int → Nat
  | [], _ => 0
  | _ :: _, [] => 0
  | x :: xs, y :: ys => if x = y then lcsL xs ys + 1 else max (lcsL xs (y :: ys)) (lcsL (x :: xs) ys)
  termination_by a b => a.length + b.length

@[simp] theorem lcsL_nil_left (b : List Int) : lcsL [] b = 0 := by unfold lcsL; rfl
@[simp] theorem lcsL_nil_right (a : List Int) : lcsL a [] = 0 := by cases a <;> (unfold lcsL; rfl)
theorem lcsL_cons (x y : Int) (xs ys : List Int) : lcsL (x :: xs) (y :: ys) = if x = y then lcsL xs ys + 1 else max (lcsL xs (y :: ys)) (lcsL (x :: xs) ys) := by
  rw [lcsL]

/-- What is done at two suffixes: 0 both are paired, 1 the first list's is passed over, 2 the second's. -/
def stepAt : List Int → List Int → Int
  | x :: xs, y :: ys => if x = y then 0 else if lcsL (x :: xs) ys ≤ lcsL xs (y :: ys) then 1 else 2
  | _, _ => 0

/-- The whole table, row by row. -/
def stepsOf (a b : List Int) : List Int := (List.range (a.length * b.length)).map fun k => stepAt (a.drop (k / b.length)) (b.drop (k % b.length))

/-- With which place of the second list each of the first one's is paired: from the place j on. -/
def matchFrom : List Int → List Int → Nat → List Int
  | [], _, _ => []
  | _ :: xs, [], j => -1 :: matchFrom xs [] j
  | x :: xs, y :: ys, j => if x = y then (j : Int) :: matchFrom xs ys (j + 1) else if lcsL (x :: xs) ys ≤ lcsL xs (y :: ys) then -1 :: matchFrom xs (y :: ys) j else matchFrom (x :: xs) ys (j + 1)
  termination_by a b _ => a.length + b.length

def matchOf (a b : List Int) : List Int := matchFrom a b 0

/-- Common sequences: the longest one is as long as told, and there is one. -/
theorem lcsL_le (a b s : List Int) : s.Sublist a → s.Sublist b → s.length ≤ lcsL a b := by
  match a, b with
  | [], b => intro h _; simp at h; simp [h]
  | x :: xs, [] => intro _ h; simp at h; simp [h]
  | x :: xs, y :: ys =>
    intro h h'
    rw [lcsL_cons]
    by_cases e : x = y
    · subst e
      rw [if_pos rfl]
      cases s with
      | nil => simp
      | cons z zs =>
        have h1 : zs.Sublist xs := by
          cases h with
          | cons _ h => exact (List.sublist_cons_self z zs).trans h
          | cons_cons _ h => exact h
        have h2 : zs.Sublist ys := by
          cases h' with
          | cons _ h => exact (List.sublist_cons_self z zs).trans h
          | cons_cons _ h => exact h
        have := lcsL_le xs ys zs h1 h2
        simp; omega
    · rw [if_neg e]
      cases h with
      | cons _ h => have := lcsL_le xs (y :: ys) s h h'; omega
      | cons_cons _ h =>
        cases h' with
        | cons _ h' => have := lcsL_le (x :: xs) ys _ (h.cons_cons x) h'; omega
        | cons_cons _ h' => exact absurd rfl e
  termination_by a.length + b.length

theorem lcsL_ex (a b : List Int) : ∃ s : List Int, s.Sublist a ∧ s.Sublist b ∧ s.length = lcsL a b := by
  match a, b with
  | [], b => exact ⟨[], by simp, by simp, by simp⟩
  | x :: xs, [] => exact ⟨[], by simp, by simp, by simp⟩
  | x :: xs, y :: ys =>
    rw [lcsL_cons]
    by_cases e : x = y
    · subst e
      rw [if_pos rfl]
      obtain ⟨s, h1, h2, h3⟩ := lcsL_ex xs ys
      exact ⟨x :: s, h1.cons_cons x, h2.cons_cons x, by simp [h3]⟩
    · rw [if_neg e]
      obtain ⟨s, h1, h2, h3⟩ := lcsL_ex xs (y :: ys)
      obtain ⟨s', h1', h2', h3'⟩ := lcsL_ex (x :: xs) ys
      rcases Nat.le_total (lcsL (x :: xs) ys) (lcsL xs (y :: ys)) with h | h
      · exact ⟨s, h1.cons x, h2, by omega⟩
      · exact ⟨s', h1', h2'.cons y, by omega⟩
  termination_by a.length + b.length

theorem lcsL_unique {a b : List Int} {n : Nat} (h1 : ∀ s : List Int, s.Sublist a → s.Sublist b → s.length ≤ n) (h2 : ∃ s : List Int, s.Sublist a ∧ s.Sublist b ∧ s.length = n) : lcsL a b = n := by
  obtain ⟨s, h3, h4, h5⟩ := lcsL_ex a b
  obtain ⟨t, h6, h7, h8⟩ := h2
  have := h1 s h3 h4
  have := lcsL_le a b t h6 h7
  omega

theorem lcsL_comm (a b : List Int) : lcsL a b = lcsL b a :=
  lcsL_unique (fun s h h' => lcsL_le b a s h' h) (let ⟨s, h1, h2, h3⟩ := lcsL_ex b a; ⟨s, h2, h1, h3⟩)

theorem lcsL_le_left (a b : List Int) : lcsL a b ≤ a.length := let ⟨_, h1, _, h3⟩ := lcsL_ex a b; h3 ▸ h1.length_le
theorem lcsL_le_right (a b : List Int) : lcsL a b ≤ b.length := let ⟨_, _, h1, h3⟩ := lcsL_ex a b; h3 ▸ h1.length_le
theorem lcsL_step_left (x : Int) (a b : List Int) : lcsL (x :: a) b ≤ lcsL a b + 1 := by
  obtain ⟨s, h1, h2, h3⟩ := lcsL_ex (x :: a) b
  cases h1 with
  | cons _ h => have := lcsL_le a b s h h2; omega
  | @cons_cons s' _ _ h =>
    have := lcsL_le a b s' h ((List.sublist_cons_self x s').trans h2)
    simp at h3
    omega
theorem lcsL_step_right (y : Int) (a b : List Int) : lcsL a (y :: b) ≤ lcsL a b + 1 := by
  rw [lcsL_comm, lcsL_comm a b]; exact lcsL_step_left y b a

theorem matchFrom_nil (b : List Int) (j : Nat) : matchFrom [] b j = [] := by unfold matchFrom; rfl
theorem matchFrom_none (x : Int) (xs : List Int) (j : Nat) : matchFrom (x :: xs) [] j = -1 :: matchFrom xs [] j := by rw [matchFrom]
theorem matchFrom_cons (x y : Int) (xs ys : List Int) (j : Nat) : matchFrom (x :: xs) (y :: ys) j = if x = y then (j : Int) :: matchFrom xs ys (j + 1) else if lcsL (x :: xs) ys ≤ lcsL xs (y :: ys) then -1 :: matchFrom xs (y :: ys) j else matchFrom (x :: xs) ys (j + 1) := by rw [matchFrom]
theorem matchFrom_rest (a : List Int) (j : Nat) : matchFrom a [] j = List.replicate a.length (-1) := by
  induction a with
  | nil => rw [matchFrom_nil]; rfl
  | cons x a ih => rw [matchFrom_none, ih]; rfl

theorem matchFrom_length (a b : List Int) (j : Nat) : (matchFrom a b j).length = a.length := by
  match a, b with
  | [], b => simp [matchFrom_nil]
  | x :: xs, [] => simp [matchFrom_rest]
  | x :: xs, y :: ys =>
    rw [matchFrom_cons]
    split
    · simp [matchFrom_length xs ys]
    · split
      · simp [matchFrom_length xs (y :: ys)]
      · exact matchFrom_length (x :: xs) ys _
  termination_by a.length + b.length

/-- All that is told of a match: each place is told -1, or one of b's, that holds the same; they rise; as many are as the longest. -/
def Rises (a b : List Int) (j : Nat) : List Int → Nat → Prop
  | [], n => n = 0 ∧ True
  | m :: ms, n => (m = -1 ∧ Rises a.tail b j ms n) ∨ (∃ k n', m = ((j + k : Nat) : Int) ∧ n = n' + 1 ∧ b[k]? = a.head? ∧ a ≠ [] ∧ Rises a.tail (b.drop (k + 1)) (j + k + 1) ms n')

theorem rises_shift {a b : List Int} {j : Nat} {y : Int} : ∀ {ms : List Int} {n : Nat}, ms.length = a.length → Rises a b (j + 1) ms n → Rises a (y :: b) j ms n := by
  intro ms
  induction ms generalizing a with
  | nil => intro n _ h; exact h
  | cons m ms ih =>
    intro n hl h
    rcases h with ⟨h1, h2⟩ | ⟨k, n', h1, h2, h3, h4, h5⟩
    · exact .inl ⟨h1, ih (by simp at hl ⊢; omega) h2⟩
    · exact .inr ⟨k + 1, n', by rw [h1]; congr 1; omega, h2, by simpa using h3, h4, by rw [show j + (k + 1) + 1 = j + 1 + k + 1 from by omega]; simpa using h5⟩

theorem matchFrom_rises (a b : List Int) (j : Nat) : Rises a b j (matchFrom a b j) (lcsL a b) := by
  match a, b with
  | [], b => rw [matchFrom_nil, lcsL_nil_left]; exact ⟨rfl, trivial⟩
  | x :: xs, [] =>
    rw [matchFrom_none, lcsL_nil_right]
    have := matchFrom_rises xs [] j
    rw [lcsL_nil_right] at this
    exact .inl ⟨rfl, this⟩
  | x :: xs, y :: ys =>
    rw [matchFrom_cons, lcsL_cons]
    by_cases e : x = y
    · subst e
      rw [if_pos rfl, if_pos rfl]
      exact .inr ⟨0, lcsL xs ys, by simp, rfl, by simp, by simp, by simpa using matchFrom_rises xs ys (j + 1)⟩
    · rw [if_neg e, if_neg e]
      by_cases h : lcsL (x :: xs) ys ≤ lcsL xs (y :: ys)
      · rw [if_pos h, Nat.max_eq_left h]
        exact .inl ⟨rfl, matchFrom_rises xs (y :: ys) j⟩
      · rw [if_neg h, Nat.max_eq_right (by omega)]
        exact rises_shift (matchFrom_length _ _ _) (matchFrom_rises (x :: xs) ys (j + 1))
  termination_by a.length + b.length
end Go.Proofs.Ytnlekganlliikaa.X
-- part XBuild
namespace Go.Proofs.Ytnlekganlliikaa.X
open Go.RowKit Go.Proofs.YtnlekganlliikaaW.PrintWords Go.Proofs.YtnlekganlliikaaW.PrintLast Go.Proofs.YtnlekganlliikaaW.PrintMore
set_option linter.unusedVariables false
set_option linter.unusedSimpArgs false
theorem sizeBuilder : (Try.prog.info? 67).map (·.size) = some 2 := by kernel_rfl

set_option maxHeartbeats 1000000 in
set_option maxRecDepth 100000 in
theorem copyCheck_used (b : Nat) (w : World) (h0 : w.cell? ⟨b, 0, none⟩ = some (.pointer (some ⟨b, 0, none⟩))) :
    Calls Try.prog 66 #[.pointer (some ⟨b, 0, none⟩)] w fun e w' => e = .returned (.tuple #[]) ∧ w' = w := by
  obtain ⟨j, hj, _⟩ := Option.map_eq_some_iff.1 sizeBuilder
  go_enter Try.func66, Try.ntmps66
  go_wp2
  rw [Lib.run_neq_ptr_same w _ Try.underlying64 hj]
  go_wp2
  go_end0
  exact ⟨rfl, rfl⟩

set_option maxHeartbeats 1000000 in
set_option maxRecDepth 100000 in
theorem copyCheck_fresh (b : Nat) (w : World) (h0 : w.cell? ⟨b, 0, none⟩ = some (.pointer none)) (hsh : w.shape? b = some (67, 2)) (hfz : w.frozen? ⟨b, 0, none⟩ = false) :
    Calls Try.prog 66 #[.pointer (some ⟨b, 0, none⟩)] w fun e w' => e = .returned (.tuple #[]) ∧ w' = w.setCell ⟨b, 0, none⟩ (.pointer (some ⟨b, 0, none⟩)) := by
  obtain ⟨j, hj, hjs⟩ := Option.map_eq_some_iff.1 sizeBuilder
  go_enter Try.func66, Try.ntmps66
  go_wp2
  rw [Lib.run_to_unsafe w ⟨b, 0, none⟩ Try.underlying64 Try.underlying132 hj (by rw [hjs]; decide) hsh (Nat.zero_lt_succ 1)]
  simp only [Result.andThen]
  rw [Oper.upon_value]
  go_wp2
  rw [run_callFunc_extern Try.func83 (by kernel_rfl) (by kernel_rfl) (by kernel_rfl) (e := Extern.AbiNoEscape.same) (by kernel_rfl)]
  rw [Lib.run_noEscape]
  simp only [Result.andThen]
  rw [Oper.upon_value]
  go_wp2
  rw [Lib.run_from_unsafe w ⟨b, 0, none⟩ Try.underlying132 Try.underlying64 hj hsh (by kernel_rfl)]
  simp only [Result.andThen]
  rw [Oper.upon_value]
  go_wp2
  go_end0
  exact ⟨rfl, rfl⟩

theorem copyCheck_calls (B b : Nat) (bs : List Value) (w : World) (h : Lib.IsBuilder 67 5 B b bs w) :
    Calls Try.prog 66 #[.pointer (some ⟨b, 0, none⟩)] w fun e w' => e = .returned (.tuple #[]) ∧ (Lib.BuilderAt 67 5 B b (.pointer (some ⟨b, 0, none⟩)) bs w' ∧ Below B w w') := by
  rcases h with h | h
  · refine (copyCheck_fresh b w h.cell0 h.shape h.frozen0).mono ?_
    rintro e w' ⟨rfl, rfl⟩
    exact ⟨rfl, h.used _, (Below.refl B w).setCell (p := ⟨b, 0, none⟩) h.1 _⟩
  · refine (copyCheck_used b w h.cell0).mono ?_
    rintro e w' ⟨rfl, rfl⟩
    exact ⟨rfl, h, Below.refl B _⟩

set_option maxHeartbeats 2000000 in
set_option maxRecDepth 100000 in
theorem writeByte_calls (B b : Nat) (bs : List Value) (c : Int) (w : World) (h : Lib.IsBuilder 67 5 B b bs w) (hlen : bs.length + 1 ≤ 140737488355328) (hBw : B ≤ w.heap.size) :
    Calls Try.prog 40 #[.pointer (some ⟨b, 0, none⟩), .int .u8 c] w fun e w' => e = .returned .nilIface ∧ (Lib.BuilderAt 67 5 B b (.pointer (some ⟨b, 0, none⟩)) (bs ++ [.int .u8 c]) w' ∧ Below B w w') := by
  obtain ⟨i0, hi, hz0, hz1, hz2⟩ := info_parts (P := Try.prog) (e := 5) (z := .int .u8 0) (size := 1) (bytes := 1) (by kernel_rfl)
  go_enter Try.func40, Try.ntmps40
  go_wp2_with fail
  refine (copyCheck_calls B b bs _ h).mono ?_
  rintro e w1 ⟨rfl, h1, hb1⟩
  obtain ⟨hB, v, hbk, hown, hne⟩ := h1
  have c0 : w1.cell? ⟨b, 0, none⟩ = some (.pointer (some ⟨b, 0, none⟩)) := by rw [Lib.cell_of_heap hbk]; rfl
  have c1 : w1.cell? ⟨b, 1, none⟩ = some v := by rw [Lib.cell_of_heap hbk]; rfl
  go_wp2_with (at_builtin; refine wpList_append_own _ rfl _ _ 65 rfl B 5 i0 (.int .u8 0) 1 1 Try.underlying65 hi hz0 hz1 hz2 rfl (by decide) _ _ _ rfl (hown.alloc _) ⟨w1.heap.size, 0, none⟩ 1 1 [.int .u8 c] rfl rfl ?c1 ?c2 ?c3 ?c4 ?c5 ?_)
  case c1 =>
    intro j u hj
    match j, hj with
    | 0, hj => simp at hj; subst hj; simp [Addr.add]
  case c2 => intro u hu; simp at hu; subst hu; rfl
  case c3 => unfold maxLen; omega
  case c4 => omega
  case c5 => have := hb1.size; simp; omega
  intro v' w2 hown' hgrow _
  have hlt : b < w1.heap.size := by
    rcases Nat.lt_or_ge b w1.heap.size with h' | h'
    · exact h'
    · simp [Array.getElem?_eq_none h'] at hbk
  have hb2 : w2.heap[b]? = some (.cells #[.pointer (some ⟨b, 0, none⟩), v] 67 (0, 0)) := by
    rw [hgrow.block b (by simp; omega) (fun e => hne e.symm), Lib.alloc_old w1 _ b hlt]
    exact hbk
  have d0 : w2.cell? ⟨b, 0, none⟩ = some (.pointer (some ⟨b, 0, none⟩)) := by rw [Lib.cell_of_heap hb2]; rfl
  have d1 : w2.cell? ⟨b, 1, none⟩ = some v := by rw [Lib.cell_of_heap hb2]; rfl
  have f1 : w2.frozen? ⟨b, 1, none⟩ = false := Lib.frozen_of_heap hb2 1
  obtain ⟨g, cap, rfl⟩ : ∃ g cap, v' = .slice (some ⟨g, 0, none⟩) (bs.length + 1) cap := by
    rcases hown'.2 with ⟨_, h0⟩ | ⟨g, cap, cur, hv, _⟩
    · omega
    · exact ⟨g, cap, hv⟩
  go_wp2
  go_ret
  refine ⟨rfl, ?_, ?_⟩
  · exact Lib.BuilderAt.put (T := 67) (e := 5) hB hb2 (bs' := bs ++ [.int .u8 c]) (by simpa using hown') (by decide)
  · exact ((hb1.alloc (by have := hb1.size; omega) _).grown hgrow (by have := hb1.size; simp; omega) (fun k hk => (hown.lt k hk).1)).setCell (p := ⟨b, 1, none⟩) hB _
end Go.Proofs.Ytnlekganlliikaa.X
-- part XGives
namespace Go.Proofs.Ytnlekganlliikaa.X
open Go.RowKit Go.Proofs.YtnlekganlliikaaW.PrintWords Go.Proofs.YtnlekganlliikaaW.PrintLast Go.Proofs.YtnlekganlliikaaW.PrintMore
set_option linter.unusedVariables false
set_option linter.unusedSimpArgs false
section
variable {α β : Type} {f g : Nat → Option α} {c : Nat → Option β} {r r' : α} {t : β}
/-- With rounds enough it tells r. -/
def Gives (f : Nat → Option α) (r : α) : Prop := ∃ K, ∀ k, K ≤ k → f k = some r
theorem Gives.pure (h : ∀ k, f k = some r) : Gives f r := ⟨0, fun k _ => h k⟩
theorem Gives.of (h : ∀ k, f (k + 1) = some r) : Gives f r := ⟨1, fun k hk => by obtain ⟨j, rfl⟩ : ∃ j, k = j + 1 := ⟨k - 1, by omega⟩; exact h j⟩
theorem Gives.step (hg : Gives g r) (h : ∀ k, f (k + 1) = g k) : Gives f r := by
  obtain ⟨K, hK⟩ := hg
  exact ⟨K + 1, fun k hk => by obtain ⟨j, rfl⟩ : ∃ j, k = j + 1 := ⟨k - 1, by omega⟩; rw [h j]; exact hK j (by omega)⟩
theorem Gives.same (hg : Gives g r) (h : ∀ k, f k = g k) : Gives f r := by
  obtain ⟨K, hK⟩ := hg
  exact ⟨K, fun k hk => by rw [h k]; exact hK k hk⟩
theorem Gives.call (hc : Gives c t) (hg : Gives g r) (h : ∀ k, c k = some t → f (k + 1) = g k) : Gives f r := by
  obtain ⟨K, hK⟩ := hg
  obtain ⟨C, hC⟩ := hc
  exact ⟨K + C + 1, fun k hk => by obtain ⟨j, rfl⟩ : ∃ j, k = j + 1 := ⟨k - 1, by omega⟩; rw [h j (hC j (by omega))]; exact hK j (by omega)⟩
theorem Gives.call0 (hc : Gives c t) (hg : Gives g r) (h : ∀ k, c k = some t → f k = g k) : Gives f r := by
  obtain ⟨K, hK⟩ := hg
  obtain ⟨C, hC⟩ := hc
  exact ⟨K + C, fun k hk => by rw [h k (hC k (by omega))]; exact hK k (by omega)⟩
theorem Gives.last (hc : Gives c t) (h : ∀ k, c k = some t → f (k + 1) = some r) : Gives f r := by
  obtain ⟨C, hC⟩ := hc
  exact ⟨C + 1, fun k hk => by obtain ⟨j, rfl⟩ : ∃ j, k = j + 1 := ⟨k - 1, by omega⟩; exact h j (hC j (by omega))⟩
theorem Gives.last0 (hc : Gives c t) (h : ∀ k, c k = some t → f k = some r) : Gives f r := by
  obtain ⟨C, hC⟩ := hc
  exact ⟨C, fun k hk => h k (hC k hk)⟩
theorem Gives.eq (h : Gives f r) (e : r = r') : Gives f r' := e ▸ h
end
theorem gw {x : Int} (h : -9223372036854775808 ≤ x) (h2 : x < 9223372036854775808) : wrap64 x = x := by
  unfold wrap64
  omega
theorem gw1 {i : Nat} (h : i < 4611686018427387904) : wrap64 ((i : Int) + 1) = ((i + 1 : Nat) : Int) := by
  rw [gw (by omega) (by omega)]; omega
theorem getN {α : Type} {d : α} {L : List α} {i : Nat} (h : i < L.length) : L.getD (i : Int).toNat d = L[i] := by
  simp [h]
theorem rdOfN {α : Type} {d : α} {L : List α} {i : Nat} (h : i < L.length) : rdOf d L (i : Int) = L[i] := by
  simp [rdOf, h]
theorem rdN {L : List Int} {i : Nat} (h : i < L.length) : rd L (i : Int) = L[i] := by
  simp [rd, h]
theorem btN {s : ByteArray} {i : Nat} (h : i < s.size) : bt s (i : Int) = ((s.data.toList[i]'(by simpa using h)).toNat : Int) := by
  simp [bt, h]; rfl
theorem strEq {a b : ByteArray} : a.toList = b.toList ↔ a = b := by
  constructor
  · intro h
    rw [Lib.toList_data, Lib.toList_data] at h
    exact ByteArray.ext (Array.toList_inj.1 h)
  · rintro rfl; rfl
theorem strBeq {a b : ByteArray} : (a.toList == b.toList) = decide (a = b) := by
  by_cases h : a = b
  · subst h; simp
  · rw [decide_eq_false h, beq_eq_false_iff_ne]
    exact fun e => h (strEq.1 e)
theorem sizeLen (s : ByteArray) : s.size = s.data.toList.length := by simp
theorem dropCons {α : Type} {l : List α} {i : Nat} (h : i < l.length) : l.drop i = l[i] :: l.drop (i + 1) := List.drop_eq_getElem_cons h
end Go.Proofs.Ytnlekganlliikaa.X
-- part XConcat
namespace Go.Proofs.Ytnlekganlliikaa.X
open Go.RowKit Go.Proofs.YtnlekganlliikaaW.PrintWords Go.Proofs.YtnlekganlliikaaW.PrintLast Go.Proofs.YtnlekganlliikaaW.PrintMore
set_option linter.unusedVariables false
set_option linter.unusedSimpArgs false
abbrev KS : Kd (List ByteArray) := Kd.slice 9 Kd.string
set_option maxRecDepth 100000 in
set_option maxHeartbeats 2000000 in
theorem grow_lists (w0 w : World) (n : Nat) (hn : n ≤ 1000000) (hw : Below w0.heap.size w0 w) :
    Calls Try.prog 69 #[.slice none 0 0, .int .i64 (n : Int)] w fun e w' => ∃ v, e = .returned v ∧ Aside0 ((heldK w0 KS).R 34 w' w.heap.size (fun _ => True) v []) ∧ Aside0 (Below w.heap.size w w') := by
  by_cases h0 : n = 0
  · subst h0
    go_enter Try.func69, Try.ntmps69
    go_wp2
    go_ret
    exact ⟨_, rfl, ⟨Kd.R_nil _ _ _ _ _⟩, ⟨Below.refl _ _⟩⟩
  · have d0 : decide ((n : Int) < 0) = false := decide_eq_false (by omega)
    have d1 : decide (0 < (n : Int)) = true := decide_eq_true (by omega)
    have d2 : decide (0 < n) = true := decide_eq_true (by omega)
    go_enter Try.func69, Try.ntmps69
    go_wp2_with (first
      | (at_builtin; refine Kd.R_append_zeros (heldK w0 KS) (w0 := w) w.heap.size rfl (.tmp 20) (.tmp 21) 22 3 34 (.slice none 0 0) 24 rfl Try.underlying22 Try.underlying3 info34 rfl Nat.zero_lt_one (by decide) (.slice none 0 0) [] [] (kx := .i64) (n : Int) (fun _ => True) rfl rfl (strs_nil _) (fun _ _ => trivial) (Kd.R_nil _ _ _ _ _) (by omega) (Below.refl _ _) (Nat.le_refl _) (by simp; omega) ?_; intro v1 w1 ho1 hb1 hg1 hat1; obtain ⟨A1, c1, hv1⟩ := Kd.R_slice ho1; subst hv1; have HO1 := Aside0.mk (Kd.R_take ho1 (Nat.zero_le _)); have HB1 := Aside0.mk hb1; have hlen : ([] ++ List.replicate (n : Int).toNat ([] : List ByteArray)).length = n := (by simp); rw [hlen]; clear ho1 hb1 hg1 hat1 hlen))
    go_ret
    exact ⟨_, rfl, ⟨by simpa using HO1.out⟩, HB1⟩
set_option maxRecDepth 100000 in
set_option maxHeartbeats 4000000 in
theorem concat_lists (A : Option Addr) (c : Nat) (L : List (List (List ByteArray))) (w : World) (hC : Kd.C (Kd.slice 34 KS) w A L.length L) (hc : L.length ≤ c) (hL : L.length ≤ 1000) (hl : L.flatten.length ≤ 1000000) :
    Calls Try.prog 43 #[.slice A L.length c] w fun e w' => ∃ v, e = .returned v ∧ Aside0 ((heldK w KS).R 34 w' w.heap.size (fun _ => True) v L.flatten) ∧ Aside0 (Below w.heap.size w w') := by
  have HC := Aside0.mk hC
  have HL := Aside0.mk hl
  have hsum : ∀ k, ((L.take k).map List.length).sum ≤ L.flatten.length := fun k => by
    have e : L.flatten.length = ((L.take k).map List.length).sum + ((L.drop k).map List.length).sum := by
      rw [List.length_flatten, ← List.sum_append, ← List.map_append, List.take_append_drop]
    omega
  have HSUM := Aside0.mk hsum
  clear hC hl hsum
  go_enter Try.func43, Try.ntmps43
  go_wp2_with fail
  go_loop [3, 5, 11] (fun s _ i => ∃ (k : Nat), k ≤ L.length ∧ i = .int .i64 k ∧ s = .int .i64 (((L.take k).map List.length).sum : Nat)) (fun _ _ i => L.length - (intOf i).toNat)
  case atStart => exact ⟨0, Nat.zero_le _, rfl, rfl⟩
  case round =>
    obtain ⟨k, hk, rfl, rfl⟩ := hrel
    obtain ⟨s, hs⟩ : ∃ s, ((L.take k).map List.length).sum = s := ⟨_, rfl⟩
    have hsb : s ≤ 1000000 := by have := HSUM.out k; have := HL.out; omega
    rw [hs]
    have HS := Aside0.mk hs
    clear hs
    by_cases hlt : k < L.length
    · obtain ⟨ad, A5, c5, rfl, hrow, hc5, hC5⟩ := at_slice HC.out k hlt
      obtain ⟨l, hle⟩ : ∃ l, L.getD k [] = l := ⟨_, rfl⟩
      have htk : L.take (k + 1) = L.take k ++ [l] := by rw [← hle, getD_get hlt, List.take_append_getElem hlt]
      rw [hle] at hrow
      have hs2 : ((L.take (k + 1)).map List.length).sum = s + l.length := by
        rw [htk, List.map_append, List.sum_append, HS.out]; simp
      have hb2 : s + l.length ≤ 1000000 := by have := HSUM.out (k + 1); have := HL.out; omega
      have HS2 := Aside0.mk hs2
      obtain ⟨n, hn⟩ : ∃ n, l.length = n := ⟨_, rfl⟩
      rw [hn] at hrow hb2 HS2
      have d0 : decide ((s : Int) + (n : Int) < 0) = false := decide_eq_false (by omega)
      clear hle htk hs2 hC5 hn
      go_wp2
      go_round
      case measure => simp [intOf]; omega
      case rel => exact ⟨k + 1, by omega, by go_num, by rw [HS2.out]; go_num⟩
    · have hk' : k = L.length := by omega
      subst hk'
      rw [List.take_length, ← List.length_flatten] at HS
      have hs' := HS.out
      subst hs'
      clear HS
      obtain ⟨n, hn⟩ : ∃ n, L.flatten.length = n := ⟨_, rfl⟩
      rw [hn] at hsb HL ⊢
      have HN := Aside0.mk hn
      clear hn
      go_wp2_with fail
      refine (grow_lists w _ n hsb (Below.refl _ _)).mono ?_
      rintro e w1 ⟨v1, rfl, HR1, HB1⟩
      obtain ⟨A1, c1, rfl⟩ := Kd.R_slice HR1.out
      go_wp2_with fail
      go_loopw [6, 8, 27] (fun v0 _ i wr => ∃ (k : Nat) (Ao : Option Addr) (co m : Nat), v0 = .slice Ao m co ∧ k ≤ L.length ∧ i = .int .i64 k ∧ Aside0 ((heldK w KS).R 34 wr w.heap.size (fun _ => True) (.slice Ao m co) (L.take k).flatten) ∧ Aside0 (Below w.heap.size w wr)) (fun _ _ i _ => L.length - (intOf i).toNat)
      case atStart => exact ⟨0, _, _, _, rfl, Nat.zero_le _, rfl, HR1, HB1⟩
      case round =>
        obtain ⟨k, Ao, co, m, rfl, hk, rfl, HR, HB⟩ := hrel
        by_cases hlt : k < L.length
        · obtain ⟨ad, A5, c5, rfl, hrow, hc5, hC5⟩ := at_slice HC.out k hlt
          obtain ⟨l, hle⟩ : ∃ l, L.getD k [] = l := ⟨_, rfl⟩
          have htk : (L.take (k + 1)).flatten = (L.take k).flatten ++ l := by rw [← hle, getD_get hlt, ← List.take_append_getElem hlt, List.flatten_append]; simp
          have HTK := Aside0.mk htk
          rw [hle] at hrow hC5
          replace hrow := (HB.out.cell (World.block_lt_of_cell? w _ hrow)).trans hrow
          have HC5 : Aside0 ((heldK w KS).C wr A5 l.length l) := ⟨held_C hC5 HB.out⟩
          have hlim : (L.take k).flatten.length + l.length ≤ 1000000 := by
            have h1 := HSUM.out (k + 1)
            have h2 := HL.out
            have h3 := congrArg List.length htk
            rw [List.length_append, List.length_flatten] at h3
            rw [HN.out] at h1
            omega
          have HLIM := Aside0.mk hlim
          clear hle htk hC5 hlim
          go_wp2_with (first
            | (at_builtin; refine Kd.R_append_rows (heldK w KS) (Rr := (heldK w KS).K wr) (w0 := w) w.heap.size rfl (.tmp 31) (.tmp 32) 22 34 (.slice none 0 0) 24 rfl Try.underlying22 info34 rfl Nat.zero_lt_one (by decide) (.slice Ao m co) (L.take k).flatten l A5 l.length c5 (fun _ => True) (fun _ => False) rfl rfl HR.out HC5.out (fun _ _ h => h) (fun _ h => h.elim) (fun _ _ => trivial) HB.out HB.out.size (by have := HLIM.out; omega) ?_; intro v2 w2 ho2 hb2 hg2 hat2; obtain ⟨A2, c2, hv2⟩ := Kd.R_slice ho2; subst hv2; generalize ((L.take k).flatten ++ l).length = m2 at ho2 ⊢; have HO2 := Aside0.mk ho2; have HB2 := Aside0.mk hb2; clear ho2 hb2 hg2 hat2))
          go_roundw
          case measure => simp [intOf]; omega
          case rel => exact ⟨k + 1, _, _, _, rfl, by omega, by go_num, by rw [HTK.out]; exact HO2, HB2⟩
        · have hk' : k = L.length := by omega
          subst hk'
          rw [List.take_length] at HR
          go_wp2
          go_ret
          exact ⟨_, rfl, HR, HB⟩
end Go.Proofs.Ytnlekganlliikaa.X
-- part XRef02
namespace Go.Proofs.Ytnlekganlliikaa.X
open Go.RowKit Go.Proofs.YtnlekganlliikaaW.PrintWords Go.Proofs.YtnlekganlliikaaW.PrintLast Go.Proofs.YtnlekganlliikaaW.PrintMore
set_option linter.unusedVariables false
set_option linter.unusedSimpArgs false
/-- So many texts, of 100 bytes, at most. -/
def fewB (l : List ByteArray) (n : Nat) : Bool := decide (l.length ≤ n ∧ ∀ s ∈ l, s.size ≤ 100)
theorem ref_few01_l0 (l : List ByteArray) (n : Nat) (hn : n ≤ 1000000) : ∀ (r i k : Nat), i + r = n + 1 → 2 * r + 2 ≤ k → sennitref01_Few.l0 k l (n : Int) (i : Int) = some (decide (l.length ≤ n ∧ ∀ s ∈ l.drop i, s.size ≤ 100))
  | 0, i, k + 2, hi, hk => by
    have e : ((l.length : Int) ≤ (n : Int)) = (l.length ≤ n) := by simp
    rw [sennitref01_Few.l0]
    by_cases h : (i : Int) < l.length
    · rw [if_pos h, decide_eq_false (show ¬ ((i : Int) ≤ (n : Int)) by omega), sennitref01_Few.j1, if_neg (by decide), decide_eq_false (by omega), decide_eq_false (by omega)]
    · rw [if_neg h, sennitref01_Few.j1, if_neg (by decide), List.drop_of_length_le (by omega)]
      simp
  | r + 1, i, k + 2, hi, hk => by
    rw [sennitref01_Few.l0]
    by_cases h : (i : Int) < l.length
    · have hd : l.drop i = l[i] :: l.drop (i + 1) := List.drop_eq_getElem_cons (by omega)
      rw [if_pos h, decide_eq_true (show ((i : Int) ≤ (n : Int)) by omega), sennitref01_Few.j1, if_pos rfl, if_pos (by omega), if_pos h, rdOfN (by omega), hd]
      by_cases h2 : 100 < l[i].size
      · rw [if_pos (by omega), decide_eq_false]
        rintro ⟨_, h3⟩
        have := h3 l[i] List.mem_cons_self
        omega
      · rw [if_neg (by omega), gw1 (by omega)]
        have := ref_few01_l0 l n hn r (i + 1) k (by omega) (by omega)
        rw [this]
        simp only [List.forall_mem_cons, show l[i].size ≤ 100 from by omega, true_and]
    · rw [if_neg h, sennitref01_Few.j1, if_neg (by decide), List.drop_of_length_le (by omega)]
      simp
theorem ref_few01 (l : List ByteArray) (n : Nat) (hn : n ≤ 1000000) : Gives (fun k => sennitref01_Few.f k l (n : Int)) (fewB l n) :=
  ⟨2 * (n + 1) + 2, fun k hk => by
    have := ref_few01_l0 l n hn (n + 1) 0 k (by omega) hk
    simpa [sennitref01_Few.f, fewB] using this⟩

theorem ref_id_l0 (t : List ByteArray) (s : ByteArray) (ht : t.length ≤ 1000000) : ∀ (r i : Nat), i + r = t.length → Gives (fun k => sennitref02_Id.l0 k t s (i : Int)) (if place s (t.drop i) < (t.drop i).length then t else t ++ [s], ((i + place s (t.drop i) : Nat) : Int))
  | 0, i, hi => Gives.of fun k => by
    show sennitref02_Id.l0 (k + 1) t s (i : Int) = _
    rw [sennitref02_Id.l0, if_neg (by omega), List.drop_of_length_le (by omega)]
    simp only [Option.bind_some, List.nil_append, List.length_nil, Nat.zero_add]
    rw [if_pos (by omega), if_pos (by omega), if_neg (by simp [place])]
    simp [place]; omega
  | r + 1, i, hi => by
    have ha := dropCons (l := t) (i := i) (by omega)
    by_cases e : t[i] = s
    · refine Gives.of fun k => ?_
      show sennitref02_Id.l0 (k + 1) t s (i : Int) = _
      rw [sennitref02_Id.l0, if_pos (by omega), if_pos (by omega), rdOfN (by omega), if_pos (strEq.2 e), ha]
      simp [place, e]
    · refine ((ref_id_l0 t s ht r (i + 1) (by omega)).eq ?_).step fun k => ?_
      · rw [ha]; simp only [place, if_neg e, List.length_cons]
        congr 1
        · by_cases h : place s (t.drop (i + 1)) < (t.drop (i + 1)).length
          · rw [if_pos h, if_pos (by omega)]
          · rw [if_neg h, if_neg (by omega)]
        · omega
      · show sennitref02_Id.l0 (k + 1) t s (i : Int) = _
        rw [sennitref02_Id.l0, if_pos (by omega), if_pos (by omega), rdOfN (by omega), if_neg (fun h => e (strEq.1 h)), gw1 (by omega)]
theorem ref_id (t : List ByteArray) (s : ByteArray) (ht : t.length ≤ 1000000) : Gives (fun k => sennitref02_Id.f k t s) (addT t s, ((place s t : Nat) : Int)) := by
  refine ((ref_id_l0 t s ht t.length 0 (by omega)).eq ?_).same fun k => rfl
  simp [addT]
theorem ref_all_l1 (files : List (List ByteArray)) (i : Nat) (hi : i < files.length) (hf : files.length ≤ 1000) (hl : files[i].length ≤ 100000) (out : List (List Int)) (ho : out.length ≤ 1000) (R : List (List Int)) (T : List ByteArray) (ht : (idsOne T files[i]).1.length ≤ 1000000)
    (hR : Gives (fun k => sennitref02_All.l0 k files (out ++ [(idsOne T files[i]).2]) (idsOne T files[i]).1 ((i + 1 : Nat) : Int)) R) :
    ∀ (r j : Nat), j + r = files[i].length → Gives (fun k => sennitref02_All.l1 k files out (idsOne T (files[i].take j)).1 (i : Int) (idsOne T (files[i].take j)).2 (j : Int)) R
  | 0, j, hj => hR.step fun k => by
    show sennitref02_All.l1 (k + 1) files out _ (i : Int) _ (j : Int) = _
    have e : rd_L1 files (i : Int) = files[i] := getN hi
    rw [sennitref02_All.l1, if_pos (by omega), if_pos (by omega), e, if_neg (by omega), if_pos (by omega), gw1 (by omega), List.take_of_length_le (by omega)]
  | r + 1, j, hj => by
    have e : rd_L1 files (i : Int) = files[i] := getN hi
    have hjl : j < files[i].length := by omega
    have tk : files[i].take (j + 1) = files[i].take j ++ [files[i][j]] := (List.take_append_getElem hjl).symm
    have ih := ref_all_l1 files i hi hf hl out ho R T ht hR r (j + 1) (by omega)
    rw [tk, idsOne_snoc] at ih
    have hle : (idsOne T (files[i].take j)).1.length ≤ 1000000 := by
      have : ∀ (t l k : List ByteArray), (idsOne t l).1.length ≤ (idsOne t (l ++ k)).1.length := by
        intro t l
        induction l generalizing t with
        | nil =>
          intro k
          induction k generalizing t with
          | nil => exact Nat.le_refl _
          | cons s k ih => exact Nat.le_trans (addT_length t s).1 (ih (addT t s))
        | cons s l ih => intro k; exact ih (addT t s) k
      have h2 := this T (files[i].take j) (files[i].drop j)
      rw [List.take_append_drop] at h2
      omega
    refine Gives.call (ref_id _ files[i][j] hle) ih fun k hk => ?_
    show sennitref02_All.l1 (k + 1) files out _ (i : Int) _ (j : Int) = _
    have hs : (idsOne T (files[i].take j)).2.length = j := by rw [idsOne_length, List.length_take]; omega
    rw [sennitref02_All.l1, if_pos (by omega), if_pos (by omega), e, if_pos (by omega), if_pos (by omega), rdOfN hjl, hk, Option.bind_some, if_pos (by omega), gw1 (by omega)]
theorem ref_all_l0 (files : List (List ByteArray)) (hf : files.length ≤ 1000) (hl : ∀ l ∈ files, l.length ≤ 100000) (ht : (files.map List.length).sum ≤ 1000000) :
    ∀ (r i : Nat), i + r = files.length → Gives (fun k => sennitref02_All.l0 k files (idsMany [] (files.take i)) (tabOf [] (files.take i)) (i : Int)) (idsMany [] files)
  | 0, i, hi => Gives.of fun k => by
    show sennitref02_All.l0 (k + 1) files _ _ (i : Int) = _
    rw [sennitref02_All.l0, if_neg (by omega), List.take_of_length_le (by omega)]
  | r + 1, i, hi => by
    have hil : i < files.length := by omega
    have tk : files.take (i + 1) = files.take i ++ [files[i]] := (List.take_append_getElem hil).symm
    have ih := ref_all_l0 files hf hl ht r (i + 1) (by omega)
    rw [tk, idsMany_snoc, tabOf_snoc] at ih
    have hsum : (idsOne (tabOf [] (files.take i)) files[i]).1.length ≤ 1000000 := by
      have h1 := idsOne_table_le (tabOf [] (files.take i)) files[i]
      have h2 : ∀ (t : List ByteArray) (ls : List (List ByteArray)), (tabOf t ls).length ≤ t.length + (ls.map List.length).sum := by
        intro t ls
        induction ls generalizing t with
        | nil => simp [tabOf]
        | cons l ls ih => have a := ih (idsOne t l).1; have b := idsOne_table_le t l; simp only [tabOf, List.map_cons, List.sum_cons]; omega
      have h3 := h2 [] (files.take i)
      have h4 : ((files.take i).map List.length).sum + files[i].length ≤ (files.map List.length).sum := by
        have e : files = files.take i ++ files[i] :: files.drop (i + 1) := by rw [← dropCons hil, List.take_append_drop]
        have := congrArg (fun l => (l.map List.length).sum) e
        simp only [List.map_append, List.sum_append, List.map_cons, List.sum_cons] at this
        omega
      simp only [List.length_nil] at h3
      omega
    have := ref_all_l1 files i hil hf (hl _ (List.getElem_mem _)) (idsMany [] (files.take i)) (by rw [idsMany_length, List.length_take]; omega) _ _ hsum ih files[i].length 0 (by omega)
    refine this.step fun k => ?_
    show sennitref02_All.l0 (k + 1) files _ _ (i : Int) = _
    rw [sennitref02_All.l0, if_pos (by omega)]
    rfl
theorem ref_all (files : List (List ByteArray)) (hf : files.length ≤ 1000) (hl : ∀ l ∈ files, l.length ≤ 100000) (ht : (files.map List.length).sum ≤ 1000000) : Gives (fun k => sennitref02_All.f k files) (idsAll files) :=
  (ref_all_l0 files hf hl ht files.length 0 (by omega)).same fun k => rfl
end Go.Proofs.Ytnlekganlliikaa.X
-- part XLcs1
namespace Go.Proofs.Ytnlekganlliikaa.X
open Go.RowKit Go.Proofs.YtnlekganlliikaaW.PrintWords Go.Proofs.YtnlekganlliikaaW.PrintLast Go.Proofs.YtnlekganlliikaaW.PrintMore
set_option linter.unusedVariables false
set_option linter.unusedSimpArgs false
theorem C_none {α : Type} {d : Kd α} {w : World} {n : Nat} {xs : List α} (h : Kd.C d w none n xs) : n = 0 ∧ xs = [] := by
  have h1 := h.1
  rcases Nat.eq_zero_or_pos n with h0 | h0
  · subst h0
    exact ⟨rfl, List.length_eq_zero_iff.1 h1⟩
  · obtain ⟨ad, e, _⟩ := h.2.2 h0
    cases e

set_option maxHeartbeats 4000000 in
set_option maxRecDepth 100000 in
theorem slices_Clone_int.calls (A0 : Option Addr) (c0 : Nat) (l0 : List Int) (w : World) (hr0 : Kd.C (Kd.int .i64) w A0 l0.length l0) (hc0 : l0.length ≤ c0) (hb : l0.length < 17592186044416) :
    Calls Try.prog 56 #[.slice A0 l0.length c0] w fun e w' => ∃ v0_ : Value, e = .returned v0_ ∧ Kd.R (Kd.int .i64) 3 w' w.heap.size (fun _ => True) v0_ l0 ∧ Below w.heap.size w w' := by
  have q22 : ∀ (w : World) (a : Option Addr) (n c n' c' : Nat), (binOp .eql 49 (.slice a n c) (.slice none n' c')).run Try.prog w = .ok (.bool a.isNone) w := fun w a n c n' c' => Lib.run_eql_slice_nil w _ _ a n c n' c' Try.underlying49
  cases A0 with
  | none =>
    obtain ⟨h0, rfl⟩ := C_none hr0
    clear hr0 hb h0
    go_enter Try.func56, Try.ntmps56
    go_wp2
    go_ret
    exact ⟨_, rfl, Kd.R_nil _ _ _ _ _, Below.refl _ _⟩
  | some ad =>
    have HR0 := Aside0.mk hr0
    have HB := Aside0.mk (Below.refl w.heap.size w)
    clear hr0 hc0
    have Hb := Lib.hid hb
    clear hb
    go_enter Try.func56, Try.ntmps56
    go_wp2_with (first | ((with_reducible refine gate_dst (N := 5) rfl ?_); refine Kd.R_lit (Kd.int .i64) _ 3 ?hg (N := 5) ?hd (xs := ([] : List Int)) (inner := []) (ok := fun _ => True) (okp := fun _ => True) ?hr ?hp (fun _ hk => hk) trivial (Below.refl _ _) (Nat.le_refl _) (by simp) ?_; (case hd => rfl); (case hg => rfl); (case hr => first | (go_simp; done) | (go_simp; rfl)); (case hp => exact Reps.none _ _); intro v1 w1 ho_ hb_ hg_ hnew_; have n0_ := Aside0.mk (Kd.R_lower ho_ (below_size (by repeat (first | (with_reducible first | exact HB.out | apply below_alloc | apply pw_below_drewN | apply below_drew1) | exact HB.out)))); have n1_ := Aside0.mk (below_step (by repeat (first | (with_reducible first | exact HB.out | apply below_alloc | apply pw_below_drewN | apply below_drew1) | exact HB.out)) hb_); clear HB; have HO1 := n0_; have HB := n1_; clear n0_ n1_; clear hb_ ho_ hg_ hnew_) | ((with_reducible refine gate_builtin (b := .append) (xs := #[.tmp 5, .tmp 6]) rfl ?_); at_builtin; refine Kd.R_append_rows (Kd.int .i64) (w0 := w) w.heap.size rfl (.tmp 5) (.tmp 6) 49 3 (.int .i64 0) 8 rfl Try.underlying49 info3 rfl (by decide) (by omega) v1 [] l0 _ _ _ (fun _ => True) (fun _ => False) rfl rfl ?aO ?aR (fun _ _ h => h) (fun _ h => h.elim) ?aF ?aB ?aS ?aL ?_; (case aR => repeat (first | exact (Kd.C_below HR0.out HB.out) | (with_reducible refine Kd.C_alloc ?_ _) | (with_reducible refine Kd.C_drewN ?_ _) | (with_reducible refine Kd.C_drew ?_))); (case aB => exact (by repeat (first | (with_reducible first | exact HB.out | apply below_alloc | apply pw_below_drewN | apply below_drew1) | exact HB.out))); (case aF => exact (fun _ _ => trivial)); (case aO => exact (by (with_reducible repeat (first | apply Kd.R_alloc | apply Kd.R_drewN | apply Kd.R_drew)); exact HO1.out)); (case aS => exact (below_size (by repeat (first | (with_reducible first | exact HB.out | apply below_alloc | apply pw_below_drewN | apply below_drew1) | exact HB.out)))); (case aL => (have := Hb.out; simp; omega)); intro v2 w2 ho_ hb_ hg_ hat_; have n0_ := Aside0.mk (hb_); have n1_ := Aside0.mk (ho_); clear HB; clear HO1; have HB := n0_; have HO2 := n1_; clear n0_ n1_; clear ho_ hb_ hg_ hat_))
    go_ret
    exact ⟨_, rfl, HO2.out, HB.out⟩
end Go.Proofs.Ytnlekganlliikaa.X
-- part XLcs2
namespace Go.Proofs.Ytnlekganlliikaa.X
open Go.RowKit Go.Proofs.YtnlekganlliikaaW.PrintWords Go.Proofs.YtnlekganlliikaaW.PrintLast Go.Proofs.YtnlekganlliikaaW.PrintMore
set_option linter.unusedVariables false
set_option linter.unusedSimpArgs false
/-- A pair's block: the lists, the Once (done, its lock), the steps, how many. -/
def pairCells (sa sb st : Value) (d long : Int) : Array Value := #[sa, sb, .int .u32 d, .int .i32 0, .int .u32 0, st, .int .i64 long]
/-- g is the block of a pair of the lists a and b, made since base; reckoned or not. -/
def IsPair (W : World) (base g : Nat) (a b : List Int) : Prop :=
  base ≤ g ∧ ∃ sa sb st d long, W.heap[g]? = some (.cells (pairCells sa sb st d long) 103 (0, 0)) ∧ Kd.R (Kd.int .i64) 3 W base (fun k => k ≠ g) sa a ∧ Kd.R (Kd.int .i64) 3 W base (fun k => k ≠ g) sb b ∧ a.length ≤ 2000 ∧ b.length ≤ 2000 ∧
    ((d = 0 ∧ st = .slice none 0 0 ∧ long = 0) ∨ (d = 1 ∧ Kd.R (Kd.int .u8) 5 W base (fun k => k ≠ g) st (stepsOf a b) ∧ long = lcsL a b))

set_option maxHeartbeats 4000000 in
set_option maxRecDepth 100000 in
theorem lcs_New_long (A0 : Option Addr) (c0 : Nat) (l0 : List Int) (A1 : Option Addr) (c1 : Nat) (l1 : List Int) (w : World) (h0 : l0.length ≤ 9223372036854775807) (h1 : l1.length ≤ 9223372036854775807) (hl : 2000 < l0.length ∨ 2000 < l1.length) :
    Calls Try.prog 31 #[.slice A0 l0.length c0, .slice A1 l1.length c1] w fun e w' => e = .returned (.tuple #[.pointer none, .int .i64 4]) ∧ w' = w := by
  by_cases h : 2000 < l0.length
  · have c1 : decide ((2000 : Int) < (l0.length : Int)) = true := decide_eq_true (by omega)
    have c2 : decide (2000 < l0.length) = true := decide_eq_true h
    clear hl h
    go_enter Try.func31, Try.ntmps31
    go_wp2
    go_ret2
    exact ⟨rfl, rfl⟩
  · have c1 : decide ((2000 : Int) < (l0.length : Int)) = false := decide_eq_false (by omega)
    have c2 : decide (2000 < l0.length) = false := decide_eq_false h
    have c3 : decide ((2000 : Int) < (l1.length : Int)) = true := decide_eq_true (by omega)
    have c4 : decide (2000 < l1.length) = true := decide_eq_true (by omega)
    clear hl h
    go_enter Try.func31, Try.ntmps31
    go_wp2
    go_ret2
    exact ⟨rfl, rfl⟩

set_option maxHeartbeats 4000000 in
set_option maxRecDepth 100000 in
theorem lcs_New_ok (A0 : Option Addr) (c0 : Nat) (l0 : List Int) (A1 : Option Addr) (c1 : Nat) (l1 : List Int) (w : World) (hr0 : Kd.C (Kd.int .i64) w A0 l0.length l0) (hc0 : l0.length ≤ c0) (hr1 : Kd.C (Kd.int .i64) w A1 l1.length l1) (hc1 : l1.length ≤ c1) (h0 : l0.length ≤ 2000) (h1 : l1.length ≤ 2000) :
    Calls Try.prog 31 #[.slice A0 l0.length c0, .slice A1 l1.length c1] w fun e w' => ∃ g : Nat, e = .returned (.tuple #[.pointer (some ⟨g, 0, none⟩), .int .i64 0]) ∧ IsPair w' w.heap.size g l0 l1 ∧ Below w.heap.size w w' := by
  have HR0 := Aside0.mk hr0
  have HC0 := Aside0.mk hc0
  have HR1 := Aside0.mk hr1
  have HC1 := Aside0.mk hc1
  clear hr0 hc0 hr1 hc1
  have d1 : decide ((2000 : Int) < (l0.length : Int)) = false := decide_eq_false (by omega)
  have d2 : decide (2000 < l0.length) = false := decide_eq_false (by omega)
  have d3 : decide ((2000 : Int) < (l1.length : Int)) = false := decide_eq_false (by omega)
  have d4 : decide (2000 < l1.length) = false := decide_eq_false (by omega)
  go_enter Try.func31, Try.ntmps31
  go_wp2_with fail
  refine (slices_Clone_int.calls A0 c0 l0 _ HR0.out HC0.out (by omega)).mono ?_
  rintro e w1 ⟨v1, rfl, ho1, hb1⟩
  obtain ⟨Av1, cv1, rfl⟩ := Kd.R_slice ho1
  have HO1 := Aside0.mk ho1
  have HB1 := Aside0.mk hb1
  clear ho1 hb1
  go_wp2_with fail
  refine (slices_Clone_int.calls A1 c1 l1 _ (Kd.C_below HR1.out HB1.out) HC1.out (by omega)).mono ?_
  rintro e w2 ⟨v2, rfl, ho2, hb2⟩
  obtain ⟨Av2, cv2, rfl⟩ := Kd.R_slice ho2
  have HO2 := Aside0.mk ho2
  have HB2 := Aside0.mk hb2
  clear ho2 hb2
  go_wp2
  go_ret2
  have hB : Below w.heap.size w w2 := below_step HB1.out HB2.out
  have ho1 := Kd.R_mono (Kd.R_bound (Kd.R_below HO1.out HB2.out)) (ok' := fun k => k ≠ w2.heap.size) (fun k hk => by have := hk.2.2.1; omega)
  have ho2 := Kd.R_mono (Kd.R_bound (Kd.R_lower HO2.out HB1.out.size)) (ok' := fun k => k ≠ w2.heap.size) (fun k hk => by have := hk.2.2.1; omega)
  refine ⟨w2.heap.size, rfl, ⟨hB.size, _, _, _, _, _, blk_new _ _, Kd.R_alloc ho1 _, Kd.R_alloc ho2 _, h0, h1, .inl ⟨rfl, rfl, rfl⟩⟩, below_alloc hB _⟩
end Go.Proofs.Ytnlekganlliikaa.X
-- part XGap1
namespace Go.Proofs.Ytnlekganlliikaa.X
open Go.RowKit Go.Proofs.YtnlekganlliikaaW.PrintWords Go.Proofs.YtnlekganlliikaaW.PrintLast Go.Proofs.YtnlekganlliikaaW.PrintMore
set_option linter.unusedVariables false
set_option linter.unusedSimpArgs false
abbrev RowG := List Int × ByteArray
abbrev kM : Kd (List Int) := Kd.arr 16 (Kd.int .u8) (by decide)
abbrev kRow : Kd RowG := Kd.pair kM Kd.string
def rowCells (x : RowG) : List Value := x.1.map (Value.int .u8) ++ [.string x.2]
theorem kRow_K {w : World} {x : RowG} {cs : List Value} : kRow.K w x cs ↔ x.1.length = 16 ∧ cs = rowCells x := by
  constructor
  · rintro ⟨c0, c1, rfl, h0, h1⟩
    obtain ⟨h2, h3⟩ := Kd.arr_cells (enc := Value.int .u8) (h1 := fun _ => rfl) (hs := by decide) h0
    exact ⟨h2, by rw [h3, show c1 = _ from h1]; rfl⟩
  · rintro ⟨h1, rfl⟩
    exact ⟨_, _, rfl, (Kd.arr 16 (Kd.int .u8) (by decide)).K_of_M (base := 0) (ok := fun _ => True) (Kd.arr_of_cells (enc := Value.int .u8) (h1 := fun _ => rfl) (hs := by decide) h1), rfl⟩
theorem kRow_M {w : World} {base : Nat} {ok : Nat → Prop} {x : RowG} (h : x.1.length = 16) : kRow.M w base ok x (rowCells x) :=
  ⟨_, _, rfl, Kd.arr_of_cells (enc := Value.int .u8) (h1 := fun _ => rfl) (hs := by decide) h, rfl⟩
theorem rowCells_len {x : RowG} (h : x.1.length = 16) : (rowCells x).length = 17 := by simp [rowCells, h]
theorem rowCells_text {x : RowG} (h : x.1.length = 16) : (rowCells x)[16]? = some (.string x.2) := by
  rw [rowCells, List.getElem?_append_right (by simp [h])]; simp [h]
theorem rowCells_one {x : RowG} : (rowCells x).toArray.all (·.oneCell') = true := by
  simp [rowCells, Value.oneCell']
theorem add0_ (g o : Nat) : (⟨g, 0, none⟩ : Addr).add o = ⟨g, o, none⟩ := by unfold Addr.add; split <;> simp_all
/-- An element that is a row: its cells. -/
theorem at_row {w : World} {g : Nat} {n : Nat} {rs : List RowG} (h : kRow.C w (some ⟨g, 0, none⟩) n rs) (i : Nat) (hi : i < n) :
    (rs.getD i ([], ByteArray.empty)).1.length = 16 ∧ w.rangeAt g (i * 17) (rowCells (rs.getD i ([], ByteArray.empty))) := by
  obtain ⟨ad, c, e1, e2, e3, e4⟩ := ReadsRow.get_ h ([], ByteArray.empty) (i : Int) (by omega) (by omega)
  cases e1
  rw [Int.toNat_natCast] at e3 e4
  obtain ⟨h1, rfl⟩ := kRow_K.1 e3
  refine ⟨h1, fun j v hj => ?_⟩
  have := e4 j v hj
  rwa [show kRow.sz = 17 from rfl, add0_] at this
theorem range_below {w W : World} {b : Nat} {o : Nat} {cs : List Value} (h : w.rangeAt b o cs) (hb : Below w.heap.size w W) : W.rangeAt b o cs := fun j v hj => (hb.cell (World.block_lt_of_cell? w _ (h j v hj))).trans (h j v hj)
/-- A whole struct into the block that was made last. -/
theorem wpList_store_new {P : Program} {ops : Array Oper} {rest : List Oper} {o : Oper} {a : Act} {w : World} {Q : Exit → Act → World → Prop} (hgd : o.guard = none) (t : TypeId) (p : Tmp) (x : Operand) (ho : o.op = .store t (.tmp p) x) (hN : o.dst = none)
    {b : Nat} (hb : b = w.heap.size) (hp : a.eval (.tmp p) = .pointer (some ⟨b, 0, none⟩)) {c c' : Array Value} (hx : a.eval x = .agg c') (hi : (P.info? t).map (·.size) = some c'.size) (hs : c.size = c'.size) (h1 : c'.all (·.oneCell') = true)
    (h : wpList P ops Q rest a (w.alloc (.cells c' t))) : wpList P ops Q (o :: rest) a (w.alloc (.cells c t)) := by
  subst hb
  refine store_event hgd ho hN ?_ (fun w' hw => by rw [hw]; exact h)
  simp only [execOp, ho, hp, hx, Sem.run_bind, run_storeAt_new w t c c' hi hs h1, Result.andThen_ok]
  rfl
/-- The rows that there are, behind a pointer. -/
def RowsIn (W : World) (B g : Nat) (rs : List RowG) (e : Int) : Prop :=
  ∃ v, W.heap[g]? = some (.cells #[v, .int .i64 e] 57 (0, 0)) ∧ B ≤ g ∧ Kd.R kRow 63 W B (fun _ => True) v rs
theorem kRow_form {W : World} {B : Nat} {v : Value} {rs : List RowG} (h : Kd.R kRow 63 W B (fun _ => True) v rs) (hp : 0 < rs.length) : ∃ g cap, v = .slice (some ⟨g, 0, none⟩) rs.length cap ∧ rs.length ≤ cap ∧ kRow.C W (some ⟨g, 0, none⟩) rs.length rs := by
  obtain ⟨g, cap, rfl, _⟩ := Kd.R_form h hp
  exact ⟨g, cap, rfl, (Kd.R_reads' h).2.1, (Kd.R_reads' h).2.2⟩

set_option maxRecDepth 100000 in
set_option maxHeartbeats 4000000 in
theorem rows_texts (g B : Nat) (rs : List RowG) (e : Int) (w : World) (h : RowsIn w B g rs e) (hn : rs.length ≤ 1000000) :
    Calls Try.prog 63 #[.pointer (some ⟨g, 0, none⟩)] w fun e w' => ∃ v, e = .returned v ∧ Aside0 (Kd.R Kd.string 9 w' w.heap.size (fun _ => True) v (rs.map (·.2))) ∧ Aside0 (Below w.heap.size w w') := by
  obtain ⟨v, hb, hg, hr⟩ := h
  obtain ⟨A, c, rfl, hc, hC⟩ := Kd.R_reads hr
  have c0 : w.cell? ⟨g, 0, none⟩ = some (.slice A rs.length c) := cell_blk hb rfl
  have HC := Aside0.mk hC
  have HRr := Aside0.mk hr
  have HB := Aside0.mk (Below.refl w.heap.size w)
  clear hb hr hC
  go_enter Try.func63, Try.ntmps63
  go_wp2_with fail
  go_loopw [3, 11] (fun o i wr => ∃ k : Nat, k ≤ rs.length ∧ i = .int .i64 k ∧ Aside0 (Kd.R Kd.string 9 wr w.heap.size (fun _ => True) o ((rs.take k).map (·.2))) ∧ Aside0 (Below w.heap.size w wr)) (fun _ i _ => rs.length - (intOf i).toNat)
  case atStart => exact ⟨0, Nat.zero_le _, rfl, ⟨Kd.R_nil _ _ _ _ _⟩, HB⟩
  case round =>
    obtain ⟨k, hk, rfl, HO, HBr⟩ := hrel
    by_cases hlt : k < rs.length
    · obtain ⟨gb, cap, hev, _⟩ := kRow_form HRr.out (by omega)
      injection hev with e1 e2 e3
      subst e1; subst e3
      clear e2
      obtain ⟨h16, hrg⟩ := at_row HC.out k hlt
      have hsn : (rs.take (k + 1)).map (·.2) = (rs.take k).map (·.2) ++ [(rs.getD k ([], ByteArray.empty)).2] := by
        rw [← List.take_append_getElem hlt, List.map_append]
        simp only [getD_get hlt]; rfl
      have HSN := Aside0.mk hsn
      clear hsn
      obtain ⟨x, hx⟩ : ∃ x, rs.getD k ([], ByteArray.empty) = x := ⟨_, rfl⟩
      rw [hx] at h16 hrg HSN
      have HRG := Aside0.mk (range_below hrg HBr.out)
      have hall := Aside0.mk (rowCells_one (x := x))
      have h16c := rowCells_text h16
      have h16d : (rowCells x).toArray[16]? = some (.string x.2) := by simpa using h16c
      have hsz := Aside0.mk (rowCells_len h16)
      clear hrg hx
      obtain ⟨Ao, co, rfl⟩ := Kd.R_slice HO.out
      have HZ : Aside0 (((rs.take k).map (·.2)).length = k) := ⟨by simp; omega⟩
      rw [HZ.out] at HO
      have h16l := Aside0.mk h16
      clear h16
      obtain ⟨C, hCe⟩ : ∃ C, rowCells x = C := ⟨_, rfl⟩
      rw [hCe] at HRG hall h16c hsz h16d
      clear hCe
      go_wp2_with (first | ((with_reducible refine gate_dst (N := 14) rfl ?_); refine wpList_load_mid rfl 63 _ rfl gb (k * 17) (by rfl) C _ HRG.out Try.underlying63 rfl (by rw [hsz.out]; kernel_rfl) ?_) | ((with_reducible refine gate_store (t := 63) (p := 5) rfl ?_); (refine wpList_store_new rfl 63 5 _ rfl rfl (b := wr.heap.size) rfl rfl (c' := C.toArray) rfl (by rw [List.size_toArray, hsz.out]; kernel_rfl) (by rw [show C.toArray.size = 17 from hsz.out]; rfl) hall.out ?_)) | (at_builtin; (refine Kd.R_append Kd.string (w0 := w) w.heap.size rfl (.tmp 15) (.tmp 18) 34 9 (.string ByteArray.empty) 16 rfl Try.underlying34 info9 rfl (by decide) (by decide) _ _ x.2 [.string x.2] (fun _ => True) (fun _ => False) rfl (congrArg (fun n => Value.slice (some ⟨n, 0, none⟩) 1 1) (show wr.heap.size + 1 = (wr.alloc (.cells C.toArray 63)).heap.size by simp)) rfl (fun _ h => h.elim) (fun _ _ => trivial) (Kd.R_alloc HO.out _) (HBr.out.alloc HBr.out.size _) (by have := HBr.out.size; simp; omega) (by rw [HZ.out]; omega) ?_; intro v3 w3 hr3 hb3 hg3 hat3; obtain ⟨A3, c3, hv3⟩ := Kd.R_slice hr3; subst hv3; have HR3 := Aside0.mk hr3; have HB3 := Aside0.mk hb3; clear hr3 hb3 hg3 hat3)))
      go_roundw
      case measure => simp [intOf]; omega
      case rel =>
        have hr3 := HR3.out
        have hz3 : ((rs.take k).map (·.2) ++ [x.2]).length = k + 1 := by rw [List.length_append, HZ.out]; rfl
        rw [hz3] at hr3
        refine ⟨k + 1, by omega, by go_num, ⟨?_⟩, HB3⟩
        rw [HSN.out]
        exact hr3
    · have hk' : k = rs.length := by omega
      subst hk'
      rw [List.take_length] at HO
      go_wp2
      go_ret
      exact ⟨_, rfl, HO, HBr⟩
end Go.Proofs.Ytnlekganlliikaa.X
-- part XGap2
namespace Go.Proofs.Ytnlekganlliikaa.X
open Go.RowKit Go.Proofs.YtnlekganlliikaaW.PrintWords Go.Proofs.YtnlekganlliikaaW.PrintLast Go.Proofs.YtnlekganlliikaaW.PrintMore
set_option linter.unusedVariables false
set_option linter.unusedSimpArgs false
theorem rowCells_get {x : RowG} {j : Nat} (h : j < x.1.length) : (rowCells x)[j]? = some (.int .u8 x.1[j]) := by
  rw [rowCells, List.getElem?_append_left (by simpa using h)]; simp [h]
theorem rowCells_set {x : RowG} {j : Nat} (h : j < x.1.length) (v : Int) : (rowCells x).toArray.setIfInBounds j (.int .u8 v) = (rowCells (x.1.set j v, x.2)).toArray := by
  simp only [rowCells, List.setIfInBounds_toArray]
  rw [List.set_append_left _ _ (by simpa using h), List.map_set]
def noMarks : List Int := List.replicate 16 0
theorem zeroRow_cell {col : Nat} (h : col < 16) (s : ByteArray) : (rowCells (noMarks, s)).toArray[col]? = some (.int .u8 0) := by
  have := rowCells_get (x := (noMarks, s)) (j := col) (by simpa [noMarks] using h)
  rw [List.getElem?_toArray, this]
  simp only [noMarks, List.getElem_replicate]
theorem info_row : (Try.prog.info? 63).map (fun i => (i.zero, i.size, i.bytes)) = some (some (.agg (rowCells (noMarks, ByteArray.empty)).toArray), 17, 32) := by kernel_rfl
theorem size_row {x : RowG} (h : x.1.length = 16) : (Try.prog.info? 63).map (·.size) = some (rowCells x).toArray.size := by
  have e : (Try.prog.info? 63).map (·.size) = some 17 := by kernel_rfl
  rw [e]
  exact congrArg some (rowCells_len h).symm
/-- A row with one mark. -/
def oneRow (col : Nat) (s : ByteArray) : RowG := (noMarks.set col 1, s)
/-- The boxes that 'fresh' has: how far it is, the list, the column, the rows that come. -/
def ComeI (w0 W : World) (B Ba Bl Bc Bo : Nat) (Al : Option Addr) (cl : Nat) (list : List ByteArray) (col at_ : Nat) (rs : List RowG) (v : Value) : Prop :=
  W.heap[Ba]? = some (.cells #[.int .i64 (at_ : Int)] 3 (0, 0)) ∧ W.heap[Bl]? = some (.cells #[.slice Al list.length cl] 34 (0, 0)) ∧ W.heap[Bc]? = some (.cells #[.int .i64 (col : Int)] 3 (0, 0)) ∧
    (W.heap[Bo]? = some (.cells #[v] 55 (0, 0)) ∧ Kd.R kRow 63 W B (fun _ => True) v rs) ∧ Below B w0 W ∧ B ≤ Ba ∧ B ≤ Bo ∧ Ba ≠ Bc
theorem own_eq (A : Option Addr) (n c n' c' : Nat) : (Value.slice A n c).ownBlock = (Value.slice A n' c').ownBlock := by cases A <;> rfl
/-- What 'fresh' leaves: all but its boxes, and the rows that come. -/
def KeepsF (Ba Bo : Nat) (W W' : World) (v v' : Value) : Prop :=
  W.heap.size ≤ W'.heap.size ∧ (∀ k, k < W.heap.size → k ≠ Ba → k ≠ Bo → some k ≠ v.ownBlock → W'.heap[k]? = W.heap[k]?) ∧ (v'.ownBlock = v.ownBlock ∨ ∃ b, v'.ownBlock = some b ∧ W.heap.size ≤ b)
theorem KeepsF.refl (Ba Bo : Nat) (W : World) (v : Value) : KeepsF Ba Bo W W v v := ⟨Nat.le_refl _, fun _ _ _ _ _ => rfl, .inl rfl⟩
theorem KeepsF.trans {Ba Bo : Nat} {W W1 W2 : World} {v v1 v2 : Value} (h : KeepsF Ba Bo W W1 v v1) (k : KeepsF Ba Bo W1 W2 v1 v2) : KeepsF Ba Bo W W2 v v2 := by
  refine ⟨Nat.le_trans h.1 k.1, fun i hi h1 h2 h3 => ?_, ?_⟩
  · refine (k.2.1 i (Nat.lt_of_lt_of_le hi h.1) h1 h2 (fun e => ?_)).trans (h.2.1 i hi h1 h2 h3)
    rcases h.2.2 with h4 | ⟨b, h4, h5⟩
    · exact h3 (e.trans h4)
    · rw [h4] at e; injection e with e; omega
  · rcases k.2.2 with h4 | ⟨b, h4, h5⟩
    · rcases h.2.2 with h6 | ⟨b, h6, h7⟩
      · exact .inl (h4.trans h6)
      · exact .inr ⟨b, h4.trans h6, h7⟩
    · exact .inr ⟨b, h4, Nat.le_trans h.1 h5⟩
theorem KeepsF.below {Ba Bo : Nat} {W W1 : World} {v : Value} (h : Below W.heap.size W W1) : KeepsF Ba Bo W W1 v v := ⟨h.size, fun k hk _ _ _ => h.block k hk, .inl rfl⟩
/-- How far it is, read off the world. -/
def atOf (Ba : Nat) (W : World) : Nat := match W.cell? ⟨Ba, 0, none⟩ with | some (.int _ n) => n.toNat | _ => 0
theorem atOf_of {Ba : Nat} {W : World} {n : Nat} {k : IntKind} (h : W.cell? ⟨Ba, 0, none⟩ = some (.int k (n : Int))) : atOf Ba W = n := by simp [atOf, h]

theorem wpList_store_row {P : Program} {ops : Array Oper} {rest : List Oper} {o : Oper} {a : Act} {w : World} {Q : Exit → Act → World → Prop} (hgd : o.guard = none) (t : TypeId) (p : Tmp) (x : Operand) (ho : o.op = .store t (.tmp p) x) (hN : o.dst = none)
    {b : Nat} (hb : b = w.heap.size) (hp : a.eval (.tmp p) = .pointer (some ⟨b, 0, none⟩)) {c c' : Array Value} (hx : a.eval x = .agg c') (hi : (P.info? t).map (·.size) = some c'.size) (hs : c.size = c'.size) (h1 : c'.all (·.oneCell') = true)
    (h : ∀ w1 : World, w1.heap[w.heap.size]? = some (.cells c' t (0, 0)) → Below w.heap.size w w1 → w.heap.size < w1.heap.size → wpList P ops Q rest a w1) : wpList P ops Q (o :: rest) a (w.alloc (.cells c t)) :=
  wpList_store_new hgd t p x ho hN hb hp hx hi hs h1 (h _ (blk_new _ _) ((Below.refl _ _).alloc (Nat.le_refl _) _) (by simp))
theorem fold_cells : ∀ (c : List Value) (k : Nat) (z : Array Value), k + c.length = z.size → List.foldl (fun (cs : Array Value) (x : Value × Nat) => cs.setIfInBounds x.2 x.1) z (c.zipIdx k) = (z.toList.take k ++ c).toArray
  | [], k, z, h => by simp at h; simp [List.take_of_length_le, h]
  | v :: c, k, z, h => by
    rw [List.zipIdx_cons, List.foldl_cons, fold_cells c (k + 1) (z.setIfInBounds k v) (by simp at h ⊢; omega)]
    congr 1
    have hk : k < z.toList.length := by simp at h ⊢; omega
    rw [Array.toList_setIfInBounds, List.take_succ_eq_append_getElem (by simpa using hk), List.take_set_of_le (Nat.le_refl _), List.getElem_set_self]
    simp
theorem fold_row {x : RowG} (h : x.1.length = 16) : List.foldl (fun (cs : Array Value) (x : Value × Nat) => cs.setIfInBounds x.2 x.1) #[.int .u8 0, .int .u8 0, .int .u8 0, .int .u8 0, .int .u8 0, .int .u8 0, .int .u8 0, .int .u8 0, .int .u8 0, .int .u8 0, .int .u8 0, .int .u8 0, .int .u8 0, .int .u8 0, .int .u8 0, .int .u8 0, .string ⟨#[]⟩] (rowCells x).zipIdx = (rowCells x).toArray := by
  rw [fold_cells _ _ _ (by rw [rowCells_len h]; rfl)]; simp
theorem after_set {w1 w2 : World} {b j : Nat} {v : Value} {cs cs' : Array Value} {t : TypeId} (hw : Aside0 (w2 = w1.setCell ⟨b, j, none⟩ v)) (hb : w1.heap[b]? = some (.cells cs t (0, 0))) (hc : cs.setIfInBounds j v = cs') :
    w2.heap[b]? = some (.cells cs' t (0, 0)) ∧ (∀ k, k ≠ b → w2.heap[k]? = w1.heap[k]?) ∧ w2.heap.size = w1.heap.size := by
  obtain rfl := hw.out
  exact ⟨by rw [heap_set_same hb, hc], fun k hk => heap_set_other hk _, by simp [World.setCell]⟩
theorem below_set {n b j : Nat} {v : Value} {w w1 w2 : World} (h : Below n w w1) (hw : Aside0 (w2 = w1.setCell ⟨b, j, none⟩ v)) (hn : n ≤ b) : Below n w w2 := by
  obtain rfl := hw.out
  exact h.setCell (p := ⟨b, j, none⟩) hn _
theorem blk_ne {W : World} {a b : Nat} {cs cs' : Array Value} {t t' : TypeId} (h : W.heap[a]? = some (.cells cs t (0, 0))) (k : W.heap[b]? = some (.cells cs' t' (0, 0))) (ht : t ≠ t') : a ≠ b := by
  rintro rfl
  rw [h] at k
  cases k
  exact ht rfl
theorem keep4 {W W2 W4 : World} {b : Nat} {o : Obj} {row : Option Nat} (h : W.heap[b]? = some o) (h2 : Below W.heap.size W W2) (h4 : W2.grownBy W4 row) (hne : some b ≠ row) : W4.heap[b]? = some o :=
  have hb := (Array.getElem?_eq_some_iff.1 h).1
  (h4.block b (Nat.lt_of_lt_of_le hb h2.size) hne).trans ((h2.block b hb).trans h)
theorem keep_ {W W1 : World} {b : Nat} {o : Obj} (h : W.heap[b]? = some o) (hb : Below W.heap.size W W1) : W1.heap[b]? = some o := (hb.block b (Array.getElem?_eq_some_iff.1 h).1).trans h
theorem set_keep {W : World} {b g j : Nat} {o : Obj} (h : W.heap[b]? = some o) (hne : b ≠ g) (v : Value) : (W.setCell ⟨g, j, none⟩ v).heap[b]? = some o := (heap_set_other hne v).trans h

set_option maxRecDepth 100000 in
set_option maxHeartbeats 8000000 in
theorem fresh_calls (w0 w : World) (B Ba Bl Bc Bo : Nat) (Al : Option Addr) (cl : Nat) (list : List ByteArray) (col a0 m : Nat) (rs : List RowG) (v0 : Value) (hC : Kd.C Kd.string w0 Al list.length list) (hB : B = w0.heap.size)
    (h : ComeI w0 w B Ba Bl Bc Bo Al cl list col a0 rs v0) (hcol : col < 16) (hto : m ≤ list.length) (ha : a0 ≤ m) (hl : list.length ≤ 100000) (hr : rs.length + list.length ≤ 1000000) :
    Calls Try.prog 64 #[.int .i64 (m : Int), .pointer (some ⟨Ba, 0, none⟩), .pointer (some ⟨Bl, 0, none⟩), .pointer (some ⟨Bc, 0, none⟩), .pointer (some ⟨Bo, 0, none⟩)] w fun e w' => ∃ v', e = .returned (.tuple #[]) ∧
      Aside0 (ComeI w0 w' B Ba Bl Bc Bo Al cl list col m (rs ++ ((list.take m).drop a0).map (oneRow col)) v') ∧ Aside0 (Below B w w') ∧ Aside0 (KeepsF Ba Bo w w' v0 v') := by
  have HC := Aside0.mk hC
  have HI := Aside0.mk h
  have HBw : Aside0 (B ≤ w.heap.size) := ⟨by rw [hB]; exact h.2.2.2.2.1.size⟩
  have HB0 := Aside0.mk hB
  clear hC h hB
  go_enter Try.func64, Try.ntmps64
  go_wp2_with fail
  go_loopw [] (fun wr => ∃ (k : Nat) (v : Value), a0 ≤ k ∧ k ≤ m ∧ Aside0 (ComeI w0 wr B Ba Bl Bc Bo Al cl list col k (rs ++ ((list.take k).drop a0).map (oneRow col)) v) ∧ Aside0 (Below B w wr) ∧ Aside0 (KeepsF Ba Bo w wr v0 v)) (fun wr => list.length - atOf Ba wr)
  case atStart => exact ⟨a0, v0, Nat.le_refl _, ha, by rw [List.drop_of_length_le (by rw [List.length_take]; omega)]; simpa using HI, ⟨Below.refl _ _⟩, ⟨KeepsF.refl _ _ _ _⟩⟩
  case round =>
    obtain ⟨k, v, hak, hk, HIr, HBr, HKr⟩ := hrel
    obtain ⟨h1, h2, h3, ⟨h4, h5⟩, h6, h7, h8, h9⟩ := HIr.out
    have ca : wr.cell? ⟨Ba, 0, none⟩ = some (.int .i64 (k : Int)) := cell_blk h1 rfl
    have H1 := Aside0.mk h1
    have H2 := Aside0.mk h2
    have H3 := Aside0.mk h3
    have H4 := Aside0.mk h4
    have H5 := Aside0.mk h5
    have H6 := Aside0.mk h6
    have H7 := Aside0.mk h7
    have H8 := Aside0.mk h8
    have H9 := Aside0.mk h9
    clear h1 h2 h3 h4 h5 h6 h7 h8 h9
    by_cases hlt : k < m
    · have cl_ : wr.cell? ⟨Bl, 0, none⟩ = some (.slice Al list.length cl) := cell_blk H2.out rfl
      have cc : wr.cell? ⟨Bc, 0, none⟩ = some (.int .i64 (col : Int)) := cell_blk H3.out rfl
      have co : wr.cell? ⟨Bo, 0, none⟩ = some v := cell_blk H4.out rfl
      obtain ⟨ad, rfl, hs⟩ := at_str HC.out k (by omega)
      replace hs := (H6.out.cell (by rw [HB0.out]; exact World.block_lt_of_cell? w0 _ hs)).trans hs
      have hkl : k < list.length := by omega
      have hsn : (list.take (k + 1)).drop a0 = (list.take k).drop a0 ++ [list.getD k ByteArray.empty] := by
        rw [← List.take_append_getElem hkl, List.drop_append_of_le_length (by rw [List.length_take]; omega)]
        simp only [getD_get hkl]
      have HSN := Aside0.mk hsn
      obtain ⟨s, hse⟩ : ∃ s, list.getD k ByteArray.empty = s := ⟨_, rfl⟩
      rw [hse] at hs HSN
      clear hse hsn
      obtain ⟨Ao, co_, rfl⟩ := Kd.R_slice H5.out
      have HZ : Aside0 ((rs ++ ((list.take k).drop a0).map (oneRow col)).length = rs.length + (k - a0)) := ⟨by simp; omega⟩
      obtain ⟨rws, hrw⟩ : ∃ rws, rs ++ ((list.take k).drop a0).map (oneRow col) = rws := ⟨_, rfl⟩
      have HRW := Aside0.mk hrw
      rw [hrw] at co HZ H4 H5
      clear hrw
      obtain ⟨n, hn⟩ : ∃ n, rws.length = n := ⟨_, rfl⟩
      rw [hn] at co HZ H4
      have HN := Aside0.mk hn
      have hH5 := H5.out
      rw [hn] at hH5
      have HR := Aside0.mk hH5
      clear hn hH5
      have hn5 : n ≤ 1000000 := by have := HZ.out; omega
      have b1 : decide ((k : Int) < (m : Int)) = true := decide_eq_true (by omega)
      have b2 : decide (k < m) = true := decide_eq_true hlt
      have e1 : wrap64 ((k : Int) + 1) = (k : Int) + 1 := by unfold wrap64; omega
      have hz16 : ((noMarks, s) : RowG).1.length = 16 := rfl
      have hcn : col < noMarks.length := hcol
      obtain ⟨x, hx⟩ : ∃ x, oneRow col s = x := ⟨_, rfl⟩
      have hx16 : x.1.length = 16 := by rw [← hx]; simp [oneRow, noMarks]
      have HX16 := Aside0.mk hx16
      have hfold := fold_row hx16
      have hl17 := rowCells_len hx16
      have HXE := Aside0.mk hx
      have hset : (rowCells (noMarks, s)).toArray.setIfInBounds col (.int .u8 1) = (rowCells x).toArray := by rw [rowCells_set hcn, ← hx]; rfl
      have HSET := Aside0.mk hset
      clear hset hx hx16 hz16
      go_wp2_with (first
        | ((with_reducible refine gate_store (t := 63) (p := 6) rfl ?_); (refine wpList_store_row rfl 63 6 _ rfl rfl (b := wr.heap.size) rfl rfl (c' := (rowCells (noMarks, s)).toArray) rfl (by kernel_rfl) (by rfl) rowCells_one ?_; intro w1 hb1 hl1 hz1; have cc1 : w1.cell? ⟨Bc, 0, none⟩ = some (.int .i64 (col : Int)) := cell_blk (keep_ H3.out hl1) rfl; have cx1 : w1.cell? ⟨wr.heap.size, col, none⟩ = some (.int .u8 0) := (cell_of_row _ _ _ _ _ _ hb1).trans (zeroRow_cell hcol s); have fx1 : w1.frozen? ⟨wr.heap.size, col, none⟩ = false := frozen_of_row _ _ _ _ _ hb1; have HB1 := Aside0.mk hb1; have HL1 := Aside0.mk hl1; have HZ1 := Aside0.mk hz1; clear hb1 hl1 hz1))
        | ((with_reducible refine gate_store (t := 5) (p := 19) rfl ?_); (refine store_at (t := 5) (p := 19) (v := .const (.int .u8 1)) (w1 := w1.setCell ⟨wr.heap.size, col, none⟩ (.int .u8 1)) ?hg ?ho ?hn ?hr ?_; (case ho => rfl); (case hg => rfl); (case hn => rfl); (case hr => first | (go_simp; done) | (go_simp; rfl)); intro w2 hw2; have hl2 := below_set HL1.out hw2 (Nat.le_refl _); have hb2 := (after_set hw2 HB1.out HSET.out).1; have c2o := (hl2.cell (World.block_lt_of_cell? wr _ co)).trans co; have HB2 := Aside0.mk hb2; have HL2 := Aside0.mk hl2; have HW2 : Aside0 (Below B w w2) := ⟨HBr.out.trans (hl2.mono (Nat.le_trans HBw.out HBr.out.size))⟩; have HZ2 : Aside0 (wr.heap.size < w2.heap.size) := ⟨blk_lt hb2⟩; clear hb2 hl2 hw2 cc1 cx1 fx1))
        | ((with_reducible refine gate_dst (N := 21) rfl ?_); (refine wpList_load_row rfl 63 _ rfl wr.heap.size rfl 63 (rowCells x).toArray (0, 0) _ HB2.out Try.underlying63 rfl (size_row HX16.out) ?_))
        | (at_builtin; (refine Kd.R_append kRow (w0 := w) B rfl (.tmp 20) (.tmp 22) 55 63 (.agg (rowCells (noMarks, ByteArray.empty)).toArray) 32 rfl Try.underlying55 info_row rfl (by decide) (by decide) (.slice Ao n co_) rws x (rowCells x) (fun _ => True) (fun _ => False) rfl rfl (kRow_M HX16.out) (fun _ h => h.elim) (fun _ _ => trivial) (Kd.R_below HR.out HL2.out) HW2.out (Nat.le_trans HBw.out HW2.out.size) (by rw [HN.out]; omega) ?_; intro v4 w4 hr4 hb4 hg4 hat4; have hgn : some Bo ≠ (Value.slice Ao n co_).ownBlock := Kd.R_ne HR.out H4.out (by decide); have h4o := (hg4.block Bo (Nat.lt_of_lt_of_le (blk_lt H4.out) HL2.out.size) hgn).trans (keep_ H4.out HL2.out); obtain ⟨A4, c4, hv4⟩ := Kd.R_slice hr4; subst hv4; have c4o : w4.cell? ⟨Bo, 0, none⟩ = some (.slice Ao n co_) := cell_blk h4o rfl; have f4o : w4.frozen? ⟨Bo, 0, none⟩ = false := frozen_of_row _ _ _ _ _ h4o; have HR4 := Aside0.mk hr4; have HB4 := Aside0.mk hb4; have HG4 := Aside0.mk hg4; have HAT := Aside0.mk hat4; have H4O := Aside0.mk h4o; have hl4 : (rws ++ [x]).length = n + 1 := (by simp [HN.out]); rw [hl4] at HR4 ⊢; clear hr4 hb4 hg4 h4o hat4 hgn c2o hl4))
        | ((with_reducible refine gate_store (t := 55) (p := 4) rfl ?_); (refine store_at (t := 55) (p := 4) (v := .tmp 23) (w1 := w4.setCell ⟨Bo, 0, none⟩ (.slice A4 (n + 1) c4)) ?hg ?ho ?hn ?hr ?_; (case ho => rfl); (case hg => rfl); (case hn => rfl); (case hr => first | (go_simp; done) | (go_simp; rfl)); intro w5 hw5; have hBaBo := blk_ne H1.out H4.out (by decide); have h5a := ((after_set hw5 H4O.out rfl).2.1 Ba hBaBo).trans (keep4 H1.out HL2.out HG4.out (Kd.R_ne HR.out H1.out (by decide))); have ca5 := cell_blk (j := 0) h5a rfl; have f5a : w5.frozen? ⟨Ba, 0, none⟩ = false := frozen_of_row _ _ _ _ _ h5a; have H5A := Aside0.mk h5a; clear c4o f4o h5a hBaBo))
        | ((with_reducible refine gate_store (t := 3) (p := 1) rfl ?_); (refine store_at (t := 3) (p := 1) (v := .tmp 11) (w1 := w5.setCell ⟨Ba, 0, none⟩ (.int .i64 ((k : Int) + 1))) ?hg ?ho ?hn ?hr ?_; (case ho => rfl); (case hg => rfl); (case hn => rfl); (case hr => first | (go_simp; done) | (go_simp; rfl)); intro w6 hw6; clear ca5 f5a)))
      go_roundw
      case measure =>
        have e6 : atOf Ba w6 = k + 1 := atOf_of (k := .i64) (n := k + 1) ((cell_blk (j := 0) (after_set hw6 H5A.out rfl).1 rfl).trans (by simp))
        rw [e6, atOf_of ca]; omega
      case rel =>
        have hBaBo := blk_ne H1.out H4.out (by decide)
        have hBlBo := blk_ne H2.out H4.out (by decide)
        have hBlBa := blk_ne H2.out H1.out (by decide)
        have hBcBo := blk_ne H3.out H4.out (by decide)
        have h6a := (after_set hw6 H5A.out rfl).1
        have o5 := (after_set hw5 H4O.out rfl).2.1
        have o6 := (after_set hw6 H5A.out rfl).2.1
        have h5o := (after_set hw5 H4O.out rfl).1
        have r5 : Kd.R kRow 63 w5 B (fun _ => True) (.slice A4 (n + 1) c4) (rws ++ [x]) := by rw [hw5.out]; exact Kd.R_set HR4.out H4O.out (by decide) _ _
        have r6 : Kd.R kRow 63 w6 B (fun _ => True) (.slice A4 (n + 1) c4) (rws ++ [x]) := by rw [hw6.out]; exact Kd.R_set r5 H5A.out (by decide) _ _
        have hrw2 : rs ++ ((list.take (k + 1)).drop a0).map (oneRow col) = rws ++ [x] := by rw [HSN.out, List.map_append, ← List.append_assoc, HRW.out, List.map_singleton, HXE.out]
        have hb6 : Below B w w6 := below_set (below_set HB4.out hw5 H8.out) hw6 H7.out
        refine ⟨k + 1, .slice A4 (n + 1) c4, by omega, by omega, ⟨⟨?_, ?_, ?_, ⟨?_, ?_⟩, ?_, H7.out, H8.out, H9.out⟩⟩, ⟨hb6⟩, ⟨HKr.out.trans ⟨?_, fun q hq h1 h2 h3 => ?_, ?_⟩⟩⟩
        · rw [h6a]; simp
        · exact (o6 Bl hBlBa).trans ((o5 Bl hBlBo).trans (keep4 H2.out HL2.out HG4.out (Kd.R_ne HR.out H2.out (by decide))))
        · exact (o6 Bc H9.out.symm).trans ((o5 Bc hBcBo).trans (keep4 H3.out HL2.out HG4.out (Kd.R_ne HR.out H3.out (by decide))))
        · exact (o6 Bo hBaBo.symm).trans h5o
        · rw [hrw2]; exact r6
        · exact HI.out.2.2.2.2.1.trans hb6
        · rw [(after_set hw6 H5A.out rfl).2.2, (after_set hw5 H4O.out rfl).2.2]
          exact Nat.le_trans HL2.out.size HG4.out.size
        · exact (o6 q h1).trans ((o5 q h2).trans ((HG4.out.block q (Nat.lt_of_lt_of_le hq HL2.out.size) (fun e => h3 (e.trans (own_eq _ _ _ _ _)))).trans (HL2.out.block q hq)))
        · rcases HAT.out with h | ⟨b, h, hh⟩
          · exact .inl ((own_eq _ _ _ _ _).trans (h.trans (own_eq _ _ _ _ _)))
          · exact .inr ⟨b, (own_eq _ _ _ _ _).trans h, Nat.le_trans HL2.out.size hh⟩
    · have hk' : k = m := by omega
      subst hk'
      go_wp2
      go_end0
      exact ⟨_, rfl, HIr, HBr, HKr⟩
end Go.Proofs.Ytnlekganlliikaa.X
-- part XGapMath
namespace Go.Proofs.Ytnlekganlliikaa.X
set_option linter.unusedVariables false
set_option linter.unusedSimpArgs false
/-- Places that rise, from lo on, below hi; -1: none. -/
def Up (hi : Nat) : Nat → List Int → Prop
  | lo, [] => lo ≤ hi
  | lo, m :: ms => (m = -1 ∧ Up hi lo ms) ∨ (∃ k : Nat, m = (k : Int) ∧ lo ≤ k ∧ k < hi ∧ Up hi (k + 1) ms)
theorem Up.le {hi : Nat} : ∀ {ms : List Int} {lo : Nat}, Up hi lo ms → lo ≤ hi
  | [], lo, h => h
  | m :: ms, lo, h => by
    rcases h with ⟨_, h⟩ | ⟨k, _, h1, h2, _⟩
    · exact Up.le h
    · omega
theorem up_of_rises {a b : List Int} : ∀ {ms : List Int} {a b : List Int} {j n : Nat}, Rises a b j ms n → Up (j + b.length) j ms
  | [], a, b, j, n, h => by simp [Up]
  | m :: ms, a, b, j, n, h => by
    rcases h with ⟨h1, h2⟩ | ⟨k, n', h1, _, h3, h4, h5⟩
    · exact .inl ⟨h1, up_of_rises (a := []) (b := []) h2⟩
    · have hk : k < b.length := by
        rcases Nat.lt_or_ge k b.length with h | h
        · exact h
        · rw [List.getElem?_eq_none h] at h3
          cases a with
          | nil => exact absurd rfl h4
          | cons x xs => cases h3
      have := up_of_rises (a := []) (b := []) h5
      rw [List.length_drop] at this
      refine .inr ⟨j + k, h1, by omega, by omega, ?_⟩
      rwa [show j + k + 1 + (b.length - (k + 1)) = j + b.length by omega] at this
theorem match_up (a b : List Int) : Up b.length 0 (matchOf a b) := by
  have := up_of_rises (a := []) (b := []) (matchFrom_rises a b 0)
  rwa [Nat.zero_add] at this
/-- The rows, as a list comes to them: m tells where each row is paired. -/
def comeGo (col : Nat) (list : List ByteArray) : List Int → List RowG → Nat → List RowG
  | m :: ms, x :: rs, at_ => if 0 ≤ m then ((list.take m.toNat).drop at_).map (oneRow col) ++ (x.1.set col 1, x.2) :: comeGo col list ms rs (m.toNat + 1) else x :: comeGo col list ms rs at_
  | _, _, at_ => (list.drop at_).map (oneRow col)
def idsOf2 (rs : List RowG) (list : List ByteArray) : List (List Int) := idsAll [rs.map (·.2), list]
def matchG (rs : List RowG) (list : List ByteArray) : List Int := matchOf ((idsOf2 rs list).getD 0 []) ((idsOf2 rs list).getD 1 [])
def comeF (col : Nat) (list : List ByteArray) (rs : List RowG) : List RowG := comeGo col list (matchG rs list) rs 0
theorem ids2_len (rs : List RowG) (list : List ByteArray) : ((idsOf2 rs list).getD 0 []).length = rs.length ∧ ((idsOf2 rs list).getD 1 []).length = list.length := by
  constructor
  · show (idsOne [] (rs.map (·.2))).2.length = _
    rw [idsOne_length, List.length_map]
  · show (idsOne _ list).2.length = _
    rw [idsOne_length]
theorem matchG_len (rs : List RowG) (list : List ByteArray) : (matchG rs list).length = rs.length := by
  rw [matchG, matchOf, matchFrom_length, (ids2_len rs list).1]
theorem matchG_up (rs : List RowG) (list : List ByteArray) : Up list.length 0 (matchG rs list) := by
  have := match_up ((idsOf2 rs list).getD 0 []) ((idsOf2 rs list).getD 1 [])
  rwa [(ids2_len rs list).2] at this
theorem ids2_list (rs : List RowG) (list : List ByteArray) : idsOf2 rs list = [(idsOf2 rs list).getD 0 [], (idsOf2 rs list).getD 1 []] := rfl
theorem comeGo_nil (col : Nat) (list : List ByteArray) (rs : List RowG) (a : Nat) : comeGo col list [] rs a = (list.drop a).map (oneRow col) := by cases rs <;> rfl
theorem comeGo_no (col : Nat) (list : List ByteArray) (ms : List Int) (x : RowG) (rs : List RowG) (a : Nat) : comeGo col list (-1 :: ms) (x :: rs) a = x :: comeGo col list ms rs a := by
  rw [comeGo, if_neg (by decide)]
theorem comeGo_yes (col : Nat) (list : List ByteArray) (k : Nat) (ms : List Int) (x : RowG) (rs : List RowG) (a : Nat) : comeGo col list ((k : Int) :: ms) (x :: rs) a = ((list.take k).drop a).map (oneRow col) ++ (x.1.set col 1, x.2) :: comeGo col list ms rs (k + 1) := by
  rw [comeGo, if_pos (by omega), Int.toNat_natCast]
theorem comeGo_len (col : Nat) (list : List ByteArray) : ∀ (ms : List Int) (rs : List RowG) (a : Nat), ms.length = rs.length → Up list.length a ms → (comeGo col list ms rs a).length ≤ rs.length + (list.length - a)
  | [], rs, a, h, _ => by
    rw [comeGo_nil]; simp
  | m :: ms, [], a, h, _ => by simp at h
  | m :: ms, y :: rs, a, h, hu => by
    have h' : ms.length = rs.length := by simpa using h
    rcases hu with ⟨rfl, hu⟩ | ⟨k, rfl, h1, h2, hu⟩
    · have := comeGo_len col list ms rs a h' hu
      rw [comeGo_no, List.length_cons, List.length_cons]; omega
    · have := comeGo_len col list ms rs (k + 1) h' hu
      rw [comeGo_yes]
      simp only [List.length_append, List.length_map, List.length_drop, List.length_take, List.length_cons]
      omega
theorem comeF_len (col : Nat) (list : List ByteArray) (rs : List RowG) : (comeF col list rs).length ≤ rs.length + list.length := by
  have := comeGo_len col list _ rs 0 (matchG_len rs list) (matchG_up rs list)
  rw [comeF]; omega
end Go.Proofs.Ytnlekganlliikaa.X
-- part XPairMath
namespace Go.Proofs.Ytnlekganlliikaa.X
set_option linter.unusedVariables false
set_option linter.unusedSimpArgs false
theorem addT_self (t : List ByteArray) (s : ByteArray) : s ∈ addT t s := by
  unfold addT; split
  · rename_i h; exact (place_mem s).2 h
  · simp
theorem addT_sub (t : List ByteArray) (s x : ByteArray) (h : x ∈ t) : x ∈ addT t s := by
  unfold addT; split
  · exact h
  · simp [h]
theorem place_addT {t : List ByteArray} {s x : ByteArray} (h : x ∈ t) : place x (addT t s) = place x t := by
  unfold addT; split
  · rfl
  · exact place_append x _ ((place_mem x).1 h)
theorem place_addT_self (t : List ByteArray) (s : ByteArray) : place s (addT t s) = place s t := by
  unfold addT; split
  · rfl
  · rename_i h; rw [place_new s [] h, place_not h]
theorem place_inj {t : List ByteArray} {s s' : ByteArray} (h : s ∈ t) (e : place s t = place s' t) : s = s' := by
  have h1 := (place_mem s).1 h
  have h2 : place s' t < t.length := by omega
  have e1 := place_get s h1
  have e2 := place_get s' h2
  rw [← e1, ← e2]
  congr 1
/-- A text's number in a table. -/
def num (t : List ByteArray) (s : ByteArray) : Int := (place s t : Int)
theorem num_inj {t : List ByteArray} {s s' : ByteArray} (h : s ∈ t) (e : num t s = num t s') : s = s' := place_inj h (by unfold num at e; omega)
theorem idsOne_spec : ∀ (t l : List ByteArray), (∀ x ∈ t, x ∈ (idsOne t l).1 ∧ place x (idsOne t l).1 = place x t) ∧ (∀ x ∈ l, x ∈ (idsOne t l).1) ∧ (idsOne t l).2 = l.map (num (idsOne t l).1)
  | t, [] => ⟨fun x h => ⟨h, rfl⟩, fun x h => by simp at h, rfl⟩
  | t, s :: l => by
    obtain ⟨h1, h2, h3⟩ := idsOne_spec (addT t s) l
    have hs := h1 s (addT_self t s)
    refine ⟨fun x h => ?_, fun x h => ?_, ?_⟩
    · have := h1 x (addT_sub t s x h)
      exact ⟨this.1, this.2.trans (place_addT h)⟩
    · rcases List.mem_cons.1 h with rfl | h
      · exact hs.1
      · exact h2 x h
    · simp only [idsOne, List.map_cons]
      rw [h3]
      congr 1
      unfold num
      rw [hs.2, place_addT_self]
theorem tabOf_spec : ∀ (t : List ByteArray) (ls : List (List ByteArray)), (∀ x ∈ t, x ∈ tabOf t ls ∧ place x (tabOf t ls) = place x t) ∧ (∀ l ∈ ls, ∀ x ∈ l, x ∈ tabOf t ls) ∧ idsMany t ls = ls.map (fun l => l.map (num (tabOf t ls)))
  | t, [] => ⟨fun x h => ⟨h, rfl⟩, fun x h => by simp at h, rfl⟩
  | t, l :: ls => by
    obtain ⟨h1, h2, h3⟩ := tabOf_spec (idsOne t l).1 ls
    obtain ⟨g1, g2, g3⟩ := idsOne_spec t l
    refine ⟨fun x h => ?_, fun k hk x h => ?_, ?_⟩
    · have := h1 x (g1 x h).1
      exact ⟨this.1, this.2.trans (g1 x h).2⟩
    · rcases List.mem_cons.1 hk with rfl | hk
      · exact (h1 x (g2 x h)).1
      · exact h2 k hk x h
    · simp only [idsMany, tabOf, List.map_cons]
      rw [h3, g3]
      congr 1
      refine List.map_congr_left fun x hx => ?_
      unfold num
      rw [(h1 x (g2 x hx)).2]
/-- The numbers of some files' texts: all by one table. -/
theorem idsAll_map (ls : List (List ByteArray)) : idsAll ls = ls.map (fun l => l.map (num (tabOf [] ls))) := (tabOf_spec [] ls).2.2
theorem tabAll {ls : List (List ByteArray)} {l : List ByteArray} (hl : l ∈ ls) {x : ByteArray} (hx : x ∈ l) : x ∈ tabOf [] ls := (tabOf_spec [] ls).2.1 l hl x hx

theorem lcsL_map {α : Type} (f g : α → Int) (a b : List α) (h : ∀ x ∈ a, ∀ y ∈ b, (f x = f y ↔ g x = g y)) : lcsL (a.map f) (b.map f) = lcsL (a.map g) (b.map g) := by
  match a, b with
  | [], b => simp
  | x :: xs, [] => simp
  | x :: xs, y :: ys =>
    simp only [List.map_cons]
    rw [lcsL_cons, lcsL_cons]
    have h1 := lcsL_map f g xs ys (fun u hu v hv => h u (by simp [hu]) v (by simp [hv]))
    have h2 := lcsL_map f g xs (y :: ys) (fun u hu v hv => h u (by simp [hu]) v hv)
    have h3 := lcsL_map f g (x :: xs) ys (fun u hu v hv => h u hu v (by simp [hv]))
    simp only [List.map_cons] at h2 h3
    rw [h1, h2, h3]
    have := h x (by simp) y (by simp)
    by_cases e : f x = f y
    · rw [if_pos e, if_pos (this.1 e)]
    · rw [if_neg e, if_neg (fun e' => e (this.2 e'))]
  termination_by a.length + b.length
theorem matchFrom_map {α : Type} (f g : α → Int) (a b : List α) (j : Nat) (h : ∀ x ∈ a, ∀ y ∈ b, (f x = f y ↔ g x = g y)) : matchFrom (a.map f) (b.map f) j = matchFrom (a.map g) (b.map g) j := by
  match a, b with
  | [], b => simp [matchFrom_nil]
  | x :: xs, [] => simp [matchFrom_rest]
  | x :: xs, y :: ys =>
    simp only [List.map_cons]
    rw [matchFrom_cons, matchFrom_cons]
    have l2 := lcsL_map f g xs (y :: ys) (fun u hu v hv => h u (by simp [hu]) v hv)
    have l3 := lcsL_map f g (x :: xs) ys (fun u hu v hv => h u hu v (by simp [hv]))
    have h1 := matchFrom_map f g xs ys (j + 1) (fun u hu v hv => h u (by simp [hu]) v (by simp [hv]))
    have h2 := matchFrom_map f g xs (y :: ys) j (fun u hu v hv => h u (by simp [hu]) v hv)
    have h3 := matchFrom_map f g (x :: xs) ys (j + 1) (fun u hu v hv => h u hu v (by simp [hv]))
    simp only [List.map_cons] at h2 h3 l2 l3
    rw [h1, h2, h3, l2, l3]
    have := h x (by simp) y (by simp)
    by_cases e : f x = f y
    · rw [if_pos e, if_pos (this.1 e)]
    · rw [if_neg e, if_neg (fun e' => e (this.2 e'))]
  termination_by a.length + b.length
/-- How two lists of texts are paired. -/
def matchS (a b : List ByteArray) : List Int := matchOf (a.map (num (a ++ b))) (b.map (num (a ++ b)))
def lcsS (a b : List ByteArray) : Nat := lcsL (a.map (num (a ++ b))) (b.map (num (a ++ b)))
theorem num_iff {t : List ByteArray} {x y : ByteArray} (h : x ∈ t) : num t x = num t y ↔ x = y := ⟨fun e => num_inj h e, fun e => by rw [e]⟩
theorem matchS_num {t : List ByteArray} {a b : List ByteArray} (h : ∀ x ∈ a, x ∈ t) : matchOf (a.map (num t)) (b.map (num t)) = matchS a b :=
  matchFrom_map _ _ a b 0 fun x hx y hy => (num_iff (h x hx)).trans (num_iff (by simp [hx])).symm
theorem matchS_length (a b : List ByteArray) : (matchS a b).length = a.length := by rw [matchS, matchOf, matchFrom_length, List.length_map]

/-- Each place is told -1, or a place of the list that holds the same; they rise, from lo on. -/
def Fits (list : List ByteArray) : List Int → List ByteArray → Nat → Prop
  | [], [], lo => lo ≤ list.length
  | m :: ms, s :: ss, lo => (m = -1 ∧ Fits list ms ss lo) ∨ (∃ k : Nat, m = (k : Int) ∧ lo ≤ k ∧ list[k]? = some s ∧ Fits list ms ss (k + 1))
  | _, _, _ => False
theorem Fits.len {list : List ByteArray} : ∀ {ms : List Int} {ss : List ByteArray} {lo : Nat}, Fits list ms ss lo → ms.length = ss.length
  | [], [], lo, h => rfl
  | [], _ :: _, lo, h => h.elim
  | _ :: _, [], lo, h => h.elim
  | m :: ms, s :: ss, lo, h => by
    rcases h with ⟨_, h⟩ | ⟨k, _, _, _, h⟩ <;> simp [Fits.len h]
theorem Fits.le {list : List ByteArray} : ∀ {ms : List Int} {ss : List ByteArray} {lo : Nat}, Fits list ms ss lo → lo ≤ list.length
  | [], [], lo, h => h
  | [], _ :: _, lo, h => h.elim
  | _ :: _, [], lo, h => h.elim
  | m :: ms, s :: ss, lo, h => by
    rcases h with ⟨_, h⟩ | ⟨k, _, h1, _, h⟩
    · exact Fits.le h
    · have := Fits.le h; omega
theorem Fits.up {list : List ByteArray} : ∀ {ms : List Int} {ss : List ByteArray} {lo : Nat}, Fits list ms ss lo → Up list.length lo ms
  | [], [], lo, h => h
  | [], _ :: _, lo, h => h.elim
  | _ :: _, [], lo, h => h.elim
  | m :: ms, s :: ss, lo, h => by
    rcases h with ⟨h1, h⟩ | ⟨k, h1, h2, h3, h⟩
    · exact .inl ⟨h1, h.up⟩
    · exact .inr ⟨k, h1, h2, (List.getElem?_eq_some_iff.1 h3).1, h.up⟩
theorem fits_of_rises {f : ByteArray → Int} {list : List ByteArray} : ∀ {ms : List Int} {a b : List ByteArray} {j n : Nat}, list.drop j = b → j ≤ list.length → ms.length = a.length → (∀ x ∈ a, ∀ y ∈ b, f x = f y → x = y) → Rises (a.map f) (b.map f) j ms n → Fits list ms a j
  | [], [], b, j, n, hb, hj, hl, hf, h => hj
  | [], _ :: _, b, j, n, hb, hj, hl, hf, h => by simp at hl
  | _ :: _, [], b, j, n, hb, hj, hl, hf, h => by simp at hl
  | m :: ms, x :: a, b, j, n, hb, hj, hl, hf, h => by
    have hl' : ms.length = a.length := by simpa using hl
    rcases h with ⟨h1, h2⟩ | ⟨k, n', h1, h2, h3, h4, h5⟩
    · exact .inl ⟨h1, fits_of_rises hb hj hl' (fun u hu => hf u (by simp [hu])) h2⟩
    · simp only [List.map_cons, List.head?_cons, List.getElem?_map, Option.map_eq_some_iff] at h3
      obtain ⟨y, hy, e⟩ := h3
      have hym : y ∈ b := List.mem_of_getElem? hy
      have := hf x (by simp) y hym e.symm
      subst this
      rw [← hb, List.getElem?_drop] at hy
      have hlt := (List.getElem?_eq_some_iff.1 hy).1
      refine .inr ⟨j + k, h1, by omega, hy, fits_of_rises (b := b.drop (k + 1)) (n := n') ?_ (by omega) hl' (fun u hu v hv => hf u (by simp [hu]) v (List.mem_of_mem_drop hv)) ?_⟩
      · rw [← hb, List.drop_drop]; rfl
      · rw [List.map_drop]; exact h5
theorem matchS_fits (a b : List ByteArray) : Fits b (matchS a b) a 0 :=
  fits_of_rises (f := num (a ++ b)) (n := lcsS a b) (List.drop_zero ..) (Nat.zero_le _) (matchS_length a b) (fun x hx y _ e => num_inj (by simp [hx]) e) (matchFrom_rises _ _ 0)
end Go.Proofs.Ytnlekganlliikaa.X
-- part XGapLaw
namespace Go.Proofs.Ytnlekganlliikaa.X
set_option linter.unusedVariables false
set_option linter.unusedSimpArgs false
theorem matchG_S (rs : List RowG) (list : List ByteArray) : matchG rs list = matchS (rs.map (·.2)) list := by
  unfold matchG idsOf2
  rw [idsAll_map]
  exact matchS_num fun x hx => tabAll (ls := [rs.map (·.2), list]) (by simp) hx
theorem comeF_def (col : Nat) (list : List ByteArray) (rs : List RowG) : comeF col list rs = comeGo col list (matchS (rs.map (·.2)) list) rs 0 := by rw [comeF, matchG_S]
/-- The rows of so many columns. -/
def Cols (n : Nat) (rs : List RowG) : Prop := ∀ x ∈ rs, x.1.length = 16 ∧ (∀ c, x.1.getD c 0 = 0 ∨ x.1.getD c 0 = 1) ∧ (∀ c, n ≤ c → x.1.getD c 0 = 0) ∧ (∃ c, c < n ∧ x.1.getD c 0 = 1)
theorem getD_set (l : List Int) (i c : Nat) (v : Int) (h : i < l.length) : (l.set i v).getD c 0 = if c = i then v else l.getD c 0 := by
  simp only [List.getD_eq_getElem?_getD, List.getElem?_set]
  by_cases e : c = i
  · subst e; simp [h]
  · simp [e, Ne.symm e]
theorem noMarks_getD (c : Nat) : noMarks.getD c 0 = 0 := by
  simp only [noMarks, List.getD_eq_getElem?_getD, List.getElem?_replicate]
  split <;> rfl
theorem oneRow_getD {col : Nat} (h : col < 16) (s : ByteArray) (c : Nat) : (oneRow col s).1.getD c 0 = if c = col then 1 else 0 := by
  rw [oneRow, getD_set _ _ _ _ (by simpa [noMarks] using h), noMarks_getD]
theorem oneRow_len (col : Nat) (s : ByteArray) : (oneRow col s).1.length = 16 := by simp [oneRow, noMarks]
theorem comeGo_forall (P : RowG → Prop) (col : Nat) (list : List ByteArray) (h1 : ∀ s ∈ list, P (oneRow col s)) : ∀ (ms : List Int) (rs : List RowG) (a : Nat), ms.length = rs.length → (∀ x ∈ rs, P x ∧ P (x.1.set col 1, x.2)) → ∀ x ∈ comeGo col list ms rs a, P x
  | [], rs, a, hl, h => by
    rw [comeGo_nil]
    intro x hx
    obtain ⟨s, hs, rfl⟩ := List.mem_map.1 hx
    exact h1 s (List.mem_of_mem_drop hs)
  | m :: ms, [], a, hl, h => by simp at hl
  | m :: ms, y :: rs, a, hl, h => by
    have ih := fun a => comeGo_forall P col list h1 ms rs a (by simpa using hl) (fun x hx => h x (List.mem_cons_of_mem _ hx))
    have hy := h y List.mem_cons_self
    intro x hx
    rw [comeGo] at hx
    split at hx
    · rcases List.mem_append.1 hx with hx | hx
      · obtain ⟨s, hs, rfl⟩ := List.mem_map.1 hx
        exact h1 s (List.mem_of_mem_take (List.mem_of_mem_drop hs))
      · rcases List.mem_cons.1 hx with rfl | hx
        · exact hy.2
        · exact ih _ x hx
    · rcases List.mem_cons.1 hx with rfl | hx
      · exact hy.1
      · exact ih _ x hx
theorem comeF_len_m (rs : List RowG) (list : List ByteArray) : (matchS (rs.map (·.2)) list).length = rs.length := by rw [matchS_length, List.length_map]
theorem Cols.come {n : Nat} {rs : List RowG} (h : Cols n rs) (hn : n < 16) (list : List ByteArray) : Cols (n + 1) (comeF n list rs) := by
  rw [comeF_def]
  refine comeGo_forall (fun x => x.1.length = 16 ∧ (∀ c, x.1.getD c 0 = 0 ∨ x.1.getD c 0 = 1) ∧ (∀ c, n + 1 ≤ c → x.1.getD c 0 = 0) ∧ (∃ c, c < n + 1 ∧ x.1.getD c 0 = 1)) n list (fun s hs => ⟨oneRow_len _ _, fun c => ?_, fun c hc => ?_, n, by omega, ?_⟩) _ rs 0 (comeF_len_m rs list) fun x hx => ?_
  · rw [oneRow_getD hn]; split <;> simp
  · rw [oneRow_getD hn, if_neg (by omega)]
  · rw [oneRow_getD hn, if_pos rfl]
  · obtain ⟨h1, h2, h3, c0, h4, h5⟩ := h x hx
    have hnl : n < x.1.length := by omega
    refine ⟨⟨h1, h2, fun c hc => h3 c (by omega), c0, by omega, h5⟩, by simpa using h1, fun c => ?_, fun c hc => ?_, n, by omega, ?_⟩
    · show (x.1.set n 1).getD c 0 = 0 ∨ (x.1.set n 1).getD c 0 = 1
      rw [getD_set _ _ _ _ hnl]; split
      · simp
      · exact h2 c
    · show (x.1.set n 1).getD c 0 = 0
      rw [getD_set _ _ _ _ hnl, if_neg (by omega)]; exact h3 c (by omega)
    · show (x.1.set n 1).getD n 0 = 1
      rw [getD_set _ _ _ _ hnl, if_pos rfl]
/-- The rows of lists that come, one by one. -/
def rowsFrom : Nat → List (List ByteArray) → List RowG → List RowG
  | _, [], rs => rs
  | i, l :: ls, rs => rowsFrom (i + 1) ls (comeF i l rs)
theorem rowsFrom_snoc : ∀ (ls : List (List ByteArray)) (i : Nat) (l : List ByteArray) (rs : List RowG), rowsFrom i (ls ++ [l]) rs = comeF (i + ls.length) l (rowsFrom i ls rs)
  | [], i, l, rs => rfl
  | x :: ls, i, l, rs => by
    simp only [List.cons_append, rowsFrom, List.length_cons]
    rw [rowsFrom_snoc ls (i + 1) l _, show i + 1 + ls.length = i + (ls.length + 1) by omega]
def rowsOf (ls : List (List ByteArray)) : List RowG := rowsFrom 0 ls []
theorem rowsOf_snoc (ls : List (List ByteArray)) (l : List ByteArray) : rowsOf (ls ++ [l]) = comeF ls.length l (rowsOf ls) := by
  rw [rowsOf, rowsFrom_snoc, Nat.zero_add]; rfl
theorem snoc_induct {α : Type} {P : List α → Prop} (h0 : P []) (h1 : ∀ l x, P l → P (l ++ [x])) : ∀ l, P l := by
  intro l
  rw [← l.reverse_reverse]
  induction l.reverse with
  | nil => exact h0
  | cons x l ih => rw [List.reverse_cons]; exact h1 _ _ ih
theorem rowsOf_cols : ∀ ls : List (List ByteArray), ls.length ≤ 16 → Cols ls.length (rowsOf ls) := by
  refine snoc_induct (fun _ x hx => by simp [rowsOf, rowsFrom] at hx) fun ls l ih h => ?_
  rw [rowsOf_snoc]
  simp only [List.length_append, List.length_cons, List.length_nil] at h ⊢
  exact (ih (by omega)).come (by omega) l
def sumLen (ls : List (List ByteArray)) : Nat := (ls.map List.length).sum
theorem rowsOf_le : ∀ ls : List (List ByteArray), (rowsOf ls).length ≤ sumLen ls := by
  refine snoc_induct (Nat.zero_le _) fun ls l ih => ?_
  rw [rowsOf_snoc]
  have := comeF_len ls.length l (rowsOf ls)
  simp only [sumLen, List.map_append, List.sum_append, List.map_cons, List.map_nil, List.sum_cons, List.sum_nil] at ih ⊢
  omega
end Go.Proofs.Ytnlekganlliikaa.X
-- part XOpen
namespace Go.Proofs.Ytnlekganlliikaa.X
open Go.RowKit Go.Proofs.YtnlekganlliikaaW.PrintWords Go.Deep
set_option linter.unusedVariables false
/-- No part of it is larger than memory. -/
def Light {H : Type} (P : Program) (t : TypeId) (d : DataW H) : Prop := ∀ n ∈ d.weights P t, n ≤ 140737488351232
/-- Whatever reads as data of type t, and is light, has cells of the kind d, and is good. -/
def Opens {α : Type} (P : Program) (t : TypeId) (d : Kd α) (good : α → Prop) : Prop :=
  ∀ {H : Type} (enc : TypeId × Value → H) (w : World) (fuel : Nat) (cs : List Value) (x : DataW H × List MemPlace),
    DataW.trod enc P w 0 (fun _ => true) true fuel t cs = some x → Light P t x.1 → ∃ y, d.K w y cs ∧ good y

theorem opens_string {P : Program} {t : TypeId} (ht : P.underlying t = some .string) : Opens P t Kd.string (fun s => s.size ≤ 140737488351232) := by
  intro H enc w fuel cs x h hl
  obtain ⟨s, rfl, rfl, hs⟩ := DataW.trod_string ht h
  refine ⟨s, rfl, ?_⟩
  have := hl s.data.toList.length (by simp [DataW.weights])
  simpa using this
theorem mem_weightsAll {H : Type} {P : Program} {e : TypeId} {n : Nat} : ∀ {l : List (DataW H)} {d : DataW H}, d ∈ l → n ∈ d.weights P e → n ∈ DataW.weightsAll P e l
  | d0 :: l, d, h, hn => by
    simp only [DataW.weightsAll, List.mem_append]
    rcases List.mem_cons.1 h with rfl | h
    · exact .inl hn
    · exact .inr (mem_weightsAll h hn)

theorem pick_list {α : Type} {Q : Nat → α → Prop} : ∀ n : Nat, (∀ i, i < n → ∃ y, Q i y) → ∃ ys : List α, ys.length = n ∧ ∀ (i : Nat) (y : α), ys[i]? = some y → Q i y
  | 0, _ => ⟨[], rfl, fun i y h => by simp at h⟩
  | n + 1, h => by
    obtain ⟨ys, hl, hq⟩ := pick_list n (fun i hi => h i (by omega))
    obtain ⟨y, hy⟩ := h n (by omega)
    refine ⟨ys ++ [y], by simp [hl], fun i z hz => ?_⟩
    rcases Nat.lt_or_ge i ys.length with hi | hi
    · rw [List.getElem?_append_left hi] at hz
      exact hq i z hz
    · have hi' : i = n := by
        have := (List.getElem?_eq_some_iff.1 hz).1
        simp at this
        omega
      subst hi'
      rw [List.getElem?_append_right hi, hl] at hz
      simp at hz
      exact hz ▸ hy

theorem opens_slice {α : Type} {P : Program} {t e : TypeId} {d : Kd α} {good : α → Prop} (ht : P.underlying t = some (.slice e)) (hc : P.cellsOf e = d.sz) {B : Nat} (hB : P.bytesOf e = B) (hd : Opens P e d good) :
    Opens P t (Kd.slice e d) (fun l => l.length * B ≤ 140737488351232 ∧ ∀ y ∈ l, good y) := by
  intro H enc w fuel cs x h hw
  rcases open_slice ht h with ⟨rfl, _⟩ | ⟨a, len, cap, m, n, D, Pl, rfl, _, hl, hm, hmm, rfl, hx⟩
  · exact ⟨[], ⟨none, 0, rfl, Nat.le_refl _, rfl, by simp, fun h => absurd h (by simp)⟩, by simp, by simp⟩
  · have hle : len ≤ m := by
      rw [hmm]
      simp
      exact hl
    have hD : ∀ i, i < len → Light P e (D i) := fun i hi n hn => hw n (by
      simp only [DataW.weights, ht]
      exact List.mem_cons_of_mem _ (List.mem_append_left _ (mem_weightsAll (List.mem_map.2 ⟨i, List.mem_range.2 hi, rfl⟩) hn)))
    have hS : len * B ≤ 140737488351232 := by
      have z := hw _ (by simp only [DataW.weights, ht]; exact List.mem_cons_self)
      rw [hB] at z
      simp only [List.length_map, List.length_range] at z
      exact Nat.le_trans (Nat.mul_le_mul_right _ (Nat.le_add_right _ _)) z
    obtain ⟨ys, hyl, hyq⟩ := pick_list (Q := fun i y => ∃ c, w.cells? 0 (a.add (i * d.sz)) d.sz = some c ∧ d.K w y c ∧ good y) len (fun i hi => by
      obtain ⟨c, h1, h2⟩ := hx i (by omega)
      obtain ⟨y, h3, h4⟩ := hd enc w n c _ h2 (hD i hi)
      rw [hc] at h1
      exact ⟨y, c, h1, h3, h4⟩)
    refine ⟨ys, ⟨some a, cap, by rw [hyl], by omega, rfl, ?_, fun _ => ⟨a, rfl, fun j p hp => ?_⟩⟩, ?_, fun y hy => ?_⟩
    · unfold maxLen at hm; omega
    · obtain ⟨c, h1, h3, _⟩ := hyq j p hp
      obtain ⟨_, hlen, hcell⟩ := World.cells?_some h1
      refine ⟨c, hlen, h3, fun i u hu => ?_⟩
      have hi : i < d.sz := by rw [← hlen]; exact (List.getElem?_eq_some_iff.1 hu).1
      rw [← Go.Deep.add_add, hcell i hi, hu]
    · rw [hyl]; exact hS
    · obtain ⟨j, hj, rfl⟩ := List.mem_iff_getElem.1 hy
      obtain ⟨_, _, _, hg⟩ := hyq j _ (List.getElem?_eq_getElem hj)
      exact hg

/-- An argument that is a slice: its value, what it reads as. -/
theorem Opens.slice_arg {α : Type} {P : Program} {t e : TypeId} {d : Kd α} {g : List α → Prop} (h : Opens P t (Kd.slice e d) g) {H : Type} {enc : TypeId × Value → H} {w : World} {v : Value} {x : DataW H} {ps : List MemPlace}
    (hv : ∃ a len cap, v = .slice a len cap) (hw : Light P t x) (ht : DataW.Trod enc P w 0 (fun _ => true) true t v x ps) :
    ∃ A c l, v = .slice A l.length c ∧ Kd.C d w A l.length l ∧ l.length ≤ c ∧ g l := by
  obtain ⟨fuel, hf⟩ := ht
  obtain ⟨l, ⟨A, c, hcs, hlc, hC⟩, hg⟩ := h enc w fuel _ _ hf hw
  obtain ⟨a, len, cap, rfl⟩ := hv
  simp [Value.cells] at hcs
  obtain ⟨rfl, rfl, rfl⟩ := hcs
  exact ⟨_, _, l, rfl, hC, hlc, hg⟩
/-- A row's datum is light. -/
theorem light_of {H : Type} {P : Program} {ts : List TypeId} {ds : List (DataW H)} (hsz : (DataW.weightsEach P ts ds).all (· ≤ reachBytes) = true) {j : Nat} {t : TypeId} {d : DataW H} (ht : ts[j]? = some t) (hd : ds[j]? = some d) : Light P t d := by
  intro n hn
  have := List.all_eq_true.1 hsz _ (DataW.weights_mem_each ht hd n hn)
  exact of_decide_eq_true this
end Go.Proofs.Ytnlekganlliikaa.X
-- part XIntern1
namespace Go.Proofs.Ytnlekganlliikaa.X
open Go.RowKit Go.Proofs.YtnlekganlliikaaW.PrintWords Go.Proofs.YtnlekganlliikaaW.PrintLast Go.Proofs.YtnlekganlliikaaW.PrintMore
open Go.Maps
set_option linter.unusedVariables false
set_option linter.unusedSimpArgs false
/-- A text as a map's key. -/
def keyT (s : ByteArray) : Lit := .string s.data.toList
theorem keyT_inj {a b : ByteArray} (h : keyT a = keyT b) : a = b := by
  have h := Lit.string.inj h
  exact ByteArray.ext (Array.toList_inj.1 h)
/-- What a map tells of a table of texts. -/
def Tells (D : DataW Unit) (t : List ByteArray) : Prop :=
  IsMap D ∧ ∀ s : ByteArray, s.size ≤ maxLen → Maps.has D (keyT s) = decide (place s t < t.length) ∧ (place s t < t.length → D.atKey (keyT s) (.lit (.int .i64 0)) = .lit (.int .i64 (place s t)))
/-- A table of texts, at block g. -/
def TableIn (W : World) (B g : Nat) (t : List ByteArray) : Prop :=
  ∃ gm tv D, W.heap[g]? = some (.cells #[.map (some gm), tv, .int .i64 (t.length : Int)] 125 (0, 0)) ∧ B ≤ g ∧ B ≤ gm ∧ W.ownsMap Try.prog 9 (plainElem Try.prog 3) gm t.length D ∧ Aside0 (Tells D t) ∧
    Kd.R Kd.string 9 W B (fun _ => True) tv t
/-- All blocks of cells but those of tables, and of texts, stay. -/
def IdKeeps (W W' : World) : Prop := W.heap.size ≤ W'.heap.size ∧ ∀ (k : Nat) (cells : Array Value) (q : TypeId) (fr : Nat × Nat), W.heap[k]? = some (.cells cells q fr) → q ≠ 125 → q ≠ 9 → W'.heap[k]? = some (.cells cells q fr)
theorem IdKeeps.refl (W : World) : IdKeeps W W := ⟨Nat.le_refl _, fun _ _ _ _ h _ _ => h⟩
theorem IdKeeps.trans {W W1 W2 : World} (h : IdKeeps W W1) (k : IdKeeps W1 W2) : IdKeeps W W2 := ⟨Nat.le_trans h.1 k.1, fun i c q fr hi h1 h2 => k.2 i c q fr (h.2 i c q fr hi h1 h2) h1 h2⟩
theorem IdKeeps.below {W W1 : World} (h : Below W.heap.size W W1) : IdKeeps W W1 := ⟨h.size, fun i c q fr hi _ _ => (h.block i (Array.getElem?_eq_some_iff.1 hi).1).trans hi⟩
theorem wf_len {n : Nat} (h : n ≤ 140737488355328) : (Lit.int .i64 (n : Int)).wf = true := by
  have e1 : IntKind.i64.min = -9223372036854775808 := rfl
  have e2 : IntKind.i64.max = 9223372036854775807 := rfl
  simp [Lit.wf, go_sem]
  omega

theorem intern_New (w : World) : Calls Try.prog 54 #[] w fun e w' => ∃ g, e = .returned (.pointer (some ⟨g, 0, none⟩)) ∧ Aside0 (TableIn w' w.heap.size g []) ∧ Aside0 (Below w.heap.size w w') := by
  have hmm := @run_makeMap Try.prog
  go_enter Try.func54, Try.ntmps54
  go_wp2
  go_ret
  have hm := World.ownsMap_made (H := Unit) w Try.prog 9 (plainElem Try.prog 3)
  obtain ⟨es, cl, hb, hr⟩ := hm
  refine ⟨_, rfl, ⟨⟨w.heap.size, .slice none 0 0, .map [], ?_, ?_, Nat.le_refl _, ⟨es, cl, ?_, hr⟩, ⟨isMap_empty, fun s hs => ⟨rfl, fun h => by simp [place] at h⟩⟩, Kd.R_nil _ _ _ _ _⟩⟩, ⟨((Below.refl _ w).alloc (Nat.le_refl _) _).alloc (by simp) _⟩⟩
  · have := World.alloc_heap_new (w.alloc (.map #[] 0)) (.cells #[.map (some w.heap.size), .slice none 0 0, .int .i64 0] 125)
    simpa using this
  · simp
  · exact (Below.heap_alloc _ _ _ (by simp)).trans hb
theorem Tells.put {D : DataW Unit} {t : List ByteArray} {s : ByteArray} (h : Tells D t) (hs : ¬ place s t < t.length) (hk : WideAt.IsKeyLit (keyT s)) : Tells (D.put (keyT s) (.lit (.int .i64 (t.length : Int)))) (t ++ [s]) := by
  obtain ⟨hm, hf⟩ := h
  refine ⟨hm.put _ _, fun x hx => ?_⟩
  by_cases e : x = s
  · subst e
    have hp := place_new x [] hs
    rw [has_put_same hm hk, atKey_put_same hm hk, hp]
    simp
  · have hne : keyT x ≠ keyT s := fun h => e (keyT_inj h)
    obtain ⟨h1, h2⟩ := hf x hx
    rw [has_put_other hne, atKey_put_other hne, h1]
    by_cases hp : place x t < t.length
    · rw [place_append x [s] hp]
      refine ⟨?_, fun _ => h2 hp⟩
      simp [hp]; omega
    · have : ¬ x ∈ t ++ [s] := by
        rw [List.mem_append, place_mem]
        rintro (h | h)
        · exact hp h
        · exact e (List.mem_singleton.1 h)
      rw [place_mem] at this
      exact ⟨by rw [decide_eq_false hp, decide_eq_false this], fun h => absurd h this⟩

set_option maxRecDepth 100000 in
set_option maxHeartbeats 1600000 in
theorem atomic_Add (g : Nat) (n : Int) (w : World) (hc : w.cell? ⟨g, 2, none⟩ = some (.int .i64 n)) (hf : w.frozen? ⟨g, 2, none⟩ = false) (hn : 0 ≤ n) (hn2 : n < 1000000000000000) :
    Calls Try.prog 78 #[.pointer (some ⟨g, 2, none⟩), .int .i64 1] w fun e w' => e = .returned (.int .i64 (n + 1)) ∧ w' = w.setCell ⟨g, 2, none⟩ (.int .i64 (n + 1)) := by
  have hs : (Op.intArith .add .i64 n 1).run Try.prog w = .ok (.int .i64 (n + 1)) w := by
    have e : IntKind.i64.wrap (n + 1) = n + 1 := IntWalk.i64_in _ ⟨by omega, by omega⟩
    rw [← e]; rfl
  have hx := run_call_add (P := Try.prog) Try.func85 (by kernel_rfl) (by kernel_rfl) (by kernel_rfl) .i64 (by kernel_rfl) hc hf hs
  go_enter Try.func78, Try.ntmps78
  go_wp2
  go_ret
  exact ⟨rfl, rfl⟩

theorem Kd.R_map {W W1 : World} {b e : Nat} {α : Type} {d : Kd α} {ok : Nat → Prop} {v : Value} {xs : List α} (h : Kd.R d e W b ok v xs) (hb : ∀ (k : Nat) (cells : Array Value) (q : TypeId) (fr : Nat × Nat), W.heap[k]? = some (.cells cells q fr) → q ∈ e :: d.E → W1.heap[k]? = W.heap[k]?) : Kd.R d e W1 b ok v xs := by
  refine Kd.R_mono (Kd.R_move (Kd.R_bound h) (fun k hk => ?_)) (fun k hk => hk.1)
  obtain ⟨_, _, _, q, hq, cells, hc⟩ := hk
  exact hb k cells q _ hc hq

set_option maxRecDepth 100000 in
set_option maxHeartbeats 4000000 in
/-- A text's number; the table then. -/
theorem table_Id (g B : Nat) (t : List ByteArray) (s : ByteArray) (w : World) (h : TableIn w B g t) (hs : s.size ≤ maxLen) (ht : t.length ≤ 1000000000) (hB : B ≤ w.heap.size) :
    Calls Try.prog 55 #[.pointer (some ⟨g, 0, none⟩), .string s] w fun e w' => e = .returned (.int .i64 (place s t)) ∧ Aside0 (TableIn w' B g (addT t s)) ∧ Aside0 (Below B w w') ∧ Aside0 (IdKeeps w w') := by
  have H := Aside0.mk h
  obtain ⟨gm, tv, D, hb, hg, hgm, hown, hT, hR⟩ := h
  have hlt := blk_lt hb
  have hkey : keyOf Try.prog 9 (.string s) = some (keyT s)   := WideMaps.keyOf_string_mk Try.underlying9 hs
  have zE : ∀ w : World, (zeroValue 3).run Try.prog w = .ok (.int .i64 0) w := fun w => by kernel_rfl
  have c0 : w.cell? ⟨g, 0, none⟩ = some (.map (some gm)) := cell_blk hb rfl
  obtain ⟨hD, hTf⟩ := hT.out
  obtain ⟨h1, h2⟩ := hTf s hs
  have HD := Aside0.mk hD
  have HB := Aside0.mk hb
  have HOWN := Aside0.mk hown
  have HR := Aside0.mk hR
  clear hD hTf hb hown hR
  by_cases hp : place s t < t.length
  · have h2' := h2 hp
    rw [decide_eq_true hp] at h1
    have H1 := Aside0.mk h1
    have H2 := Aside0.mk h2'
    clear h1 h2 h2'
    go_enter Try.func55, Try.ntmps55
    go_wp2_with (at_lookup; refine wpList_lookup_own_ok_int _ rfl _ _ 120 rfl 9 3 .i64 (string_keyed Try.underlying9) Try.underlying120 Try.underlying3 (zE _) gm t.length D rfl HOWN.out _ _ rfl hkey ?_; intro c hat hwc; rw [H1.out]; rw [H2.out] at hat; obtain rfl : c = (place s t : Int) := by (injection hat with hat; injection hat with _ hat; exact hat.symm))
    go_ret
    rw [addT, if_pos hp]
    exact ⟨rfl, H, ⟨Below.refl _ _⟩, ⟨IdKeeps.refl _⟩⟩
  · rw [decide_eq_false hp] at h1
    have H1 := Aside0.mk h1
    clear h1 h2
    have hpl := place_not hp
    have z0 : D.atKey (keyT s) (.lit (.int .i64 0)) = .lit (.int .i64 0) := atKey_of_not_has H1.out _
    have Z0 := Aside0.mk z0
    clear z0
    have c2 : w.cell? ⟨g, 2, none⟩ = some (.int .i64 (t.length : Int)) := cell_blk HB.out rfl
    have f2 : w.frozen? ⟨g, 2, none⟩ = false := frozen_of_row _ _ _ _ _ HB.out
    rw [hpl]
    go_enter Try.func55, Try.ntmps55
    go_wp2_with (at_lookup; refine wpList_lookup_own_ok_int _ rfl _ _ 120 rfl 9 3 .i64 (string_keyed Try.underlying9) Try.underlying120 Try.underlying3 (zE _) gm t.length D rfl HOWN.out _ _ rfl hkey ?_; intro c hat hwc; rw [H1.out]; rw [Z0.out] at hat; obtain rfl : c = (0 : Int) := by (injection hat with hat; injection hat with _ hat; exact hat.symm))
    refine (atomic_Add g (t.length : Int) _ c2 f2 (by omega) (by omega)).mono ?_
    rintro e w1 ⟨rfl, rfl⟩
    have hne : gm ≠ g := by
      rintro rfl
      obtain ⟨es, cl, hm, _⟩ := HOWN.out
      rw [HB.out] at hm; cases hm
    obtain ⟨w1, hw1⟩ : ∃ w1, w.setCell ⟨g, 2, none⟩ (.int .i64 ((t.length : Int) + 1)) = w1 := ⟨_, rfl⟩
    have HW1 := Aside0.mk hw1
    rw [hw1]
    have hb1 : w1.heap[g]? = some (.cells #[.map (some gm), tv, .int .i64 ((t.length : Int) + 1)] 125 (0, 0)) := by rw [← hw1]; exact heap_set_same HB.out _
    have ho1 : w1.ownsMap Try.prog 9 (plainElem Try.prog 3) gm t.length D := by
      obtain ⟨es, cl, hm, r⟩ := HOWN.out
      exact ⟨es, cl, by rw [← hw1, heap_set_other hne]; exact hm, r⟩
    have hr1 : Kd.R Kd.string 9 w1 B (fun _ => True) tv t := by rw [← hw1]; exact Kd.R_set HR.out HB.out (by decide) _ _
    have hbl1 : Below B w w1 := by rw [← hw1]; exact (Below.refl _ _).setCell (p := ⟨g, 2, none⟩) hg _
    have hk1 : IdKeeps w w1 := ⟨by rw [← hw1]; simp [World.setCell], fun k cells q fr hk h1 h2 => by
      rw [← hw1, heap_set_other]; · exact hk
      · rintro rfl; rw [HB.out] at hk; cases hk; exact h1 rfl⟩
    clear hw1
    have c10 : w1.cell? ⟨g, 0, none⟩ = some (.map (some gm)) := cell_blk hb1 rfl
    have HB1 := Aside0.mk hb1
    have HO1 := Aside0.mk ho1
    have HR1 := Aside0.mk hr1
    have HL1 := Aside0.mk hbl1
    have HK1 := Aside0.mk hk1
    clear hb1 ho1 hr1 hbl1 hk1
    have e1 : wrap64 ((t.length : Int) + 1 - 1) = (t.length : Int) := by unfold wrap64; omega
    have e2 : (t.length : Int) + 1 - 1 = (t.length : Int) := by omega
    clear c0 c2 f2
    go_wp2_with (first | (at_mapUpdate; (refine wpList_mapUpdate_own _ rfl _ _ _ 120 rfl 9 3 (string_keyed Try.underlying9) Try.underlying120 _ gm t.length D rfl HO1.out (by unfold maxLen; omega) _ _ _ rfl rfl hkey (.lit (.int .i64 (t.length : Int))) [] (plainElem_int Try.underlying3 (wf_len (by omega))) ?_; intro w2 hown2 hgrow2; have hb2 := (hgrow2.block g (blk_lt HB1.out) (fun e => hne (Option.some.inj e).symm)).trans HB1.out; have hr2 : Kd.R Kd.string 9 w2 B (fun _ => True) tv t := Kd.R_map HR1.out (fun k cells q fr hk _ => hgrow2.block k (Array.getElem?_eq_some_iff.1 hk).1 (fun e => by obtain ⟨es, cl, hm, _⟩ := HO1.out; rw [Option.some.inj e, hm] at hk; cases hk)); have c21 : w2.cell? ⟨g, 1, none⟩ = some tv := cell_blk hb2 rfl; obtain ⟨Av, cv, hev⟩ := Kd.R_slice hr2; subst hev; have HB2 := Aside0.mk hb2; have HR2 := Aside0.mk hr2; have HO2 := Aside0.mk hown2; have HG2 := Aside0.mk hgrow2; clear hb2 hr2 hown2 hgrow2)) | (at_builtin; (refine Kd.R_append Kd.string (w0 := w2) B rfl (.tmp 35) (.tmp 37) 34 9 (.string ByteArray.empty) 16 rfl Try.underlying34 info9 rfl (by decide) (by decide) _ t s [.string s] (fun _ => True) (fun _ => False) rfl rfl rfl (fun _ h => h.elim) (fun _ _ => trivial) HR2.out (Below.refl _ _) (Nat.le_trans hB (Nat.le_trans HK1.out.1 HG2.out.size)) (by omega) ?_; intro v3 w3 hr3 hbl3 hg3 hat3; have hgn : some g ≠ (Value.slice Av t.length cv).ownBlock := Kd.R_ne HR2.out HB2.out (by decide); have hb3 := (hg3.block g (blk_lt HB2.out) hgn).trans HB2.out; obtain ⟨A3, c3, hev3⟩ := Kd.R_slice hr3; subst hev3; have c31 := cell_blk (j := 1) hb3 rfl; have f31 : w3.frozen? ⟨g, 1, none⟩ = false := frozen_of_row _ _ _ _ _ hb3; have HR3 := Aside0.mk hr3; have HB3 := Aside0.mk hb3; have HL3 := Aside0.mk hbl3; have HG3 : Aside0 (w2.grownBy w3 (Value.slice Av t.length cv).ownBlock) := Aside0.mk hg3; clear hr3 hb3 hbl3 hg3 hat3)))
    go_ret
    have hadd : addT t s = t ++ [s] := by rw [addT, if_neg hp]
    have hlen : (t ++ [s]).length = t.length + 1 := by simp
    rw [hadd]
    have hgm2 : (Value.slice Av t.length cv).ownBlock ≠ some gm := by
      intro e
      obtain ⟨es, cl, hm, _⟩ := HO2.out
      obtain ⟨cells, hc⟩ := Kd.R_typed HR2.out gm e
      rw [hm] at hc; cases hc
    have hB2 : B ≤ w2.heap.size := Nat.le_trans hB (Nat.le_trans HK1.out.1 HG2.out.size)
    have HR3' := HR3.out
    rw [hlen] at HR3'
    refine ⟨rfl, ⟨⟨gm, .slice A3 (t.length + 1) c3, D.put (keyT s) (.lit (.int .i64 (t.length : Int))), ?_, hg, hgm, ?_, ⟨Tells.put hT.out hp trivial⟩, ?_⟩⟩, ⟨?_⟩, ⟨?_⟩⟩
    · rw [heap_set_same HB3.out, hlen]; rfl
    · obtain ⟨es, cl, hm, r⟩ := HO2.out
      refine ⟨es, cl, ?_, by rw [hlen]; exact r⟩
      rw [heap_set_other hne, HG3.out.block gm (by rcases Nat.lt_or_ge gm w2.heap.size with h | h
                                                   · exact h
                                                   · rw [Array.getElem?_eq_none h] at hm; cases hm) (fun e => hgm2 e.symm)]
      exact hm
    · exact Kd.R_set HR3' HB3.out (by decide) _ _
    · exact (((HL1.out.grown HG2.out (Nat.le_trans hB HK1.out.1) (fun j hj => by rw [← Option.some.inj hj]; exact hgm)).trans HL3.out).setCell (p := ⟨g, 1, none⟩) hg _)
    · refine ⟨?_, fun k cells q fr hk h1 h2 => ?_⟩
      · have a1 := HK1.out.1; have a2 := HG2.out.size; have a3 := HG3.out.size
        simp [World.setCell]; omega
      · have k1 := HK1.out.2 k cells q fr hk h1 h2
        have k2 := (HG2.out.block k (Array.getElem?_eq_some_iff.1 k1).1 (fun e => by
          obtain ⟨es, cl, hm, _⟩ := HO1.out
          rw [Option.some.inj e, hm] at k1; cases k1)).trans k1
        have k3 := (HG3.out.block k (Array.getElem?_eq_some_iff.1 k2).1 (fun e => by
          obtain ⟨cells', hc⟩ := Kd.R_typed HR2.out k e.symm
          rw [k2] at hc; cases hc; exact h2 rfl)).trans k2
        rw [heap_set_other]
        · exact k3
        · rintro rfl
          rw [HB3.out] at k3; cases k3; exact h1 rfl
end Go.Proofs.Ytnlekganlliikaa.X
-- part XIntern2
namespace Go.Proofs.Ytnlekganlliikaa.X
open Go.RowKit Go.Proofs.YtnlekganlliikaaW.PrintWords Go.Proofs.YtnlekganlliikaaW.PrintLast Go.Proofs.YtnlekganlliikaaW.PrintMore
open Go.Maps
set_option linter.unusedVariables false
set_option linter.unusedSimpArgs false
theorem TableIn.same {W W' : World} {B g : Nat} {t : List ByteArray} (h : TableIn W B g t) (hh : W'.heap = W.heap) : TableIn W' B g t := by
  obtain ⟨gm, tv, D, h1, h2, h3, h4, h5, h6⟩ := h
  obtain ⟨es, cl, h7, h8⟩ := h4
  exact ⟨gm, tv, D, by rw [hh]; exact h1, h2, h3, ⟨es, cl, by rw [hh]; exact h7, h8⟩, h5, Kd.R_move h6 (fun k _ => by rw [hh])⟩
theorem TableIn.step {W W' : World} {B g : Nat} {t : List ByteArray} (h : TableIn W B g t) (hh : ∀ k, k < W.heap.size → (∀ cells q fr, W.heap[k]? = some (.cells cells q fr) → q = 125 ∨ q = 9) → W'.heap[k]? = W.heap[k]?) : TableIn W' B g t := by
  obtain ⟨gm, tv, D, h1, h2, h3, h4, h5, h6⟩ := h
  obtain ⟨es, cl, h7, h8⟩ := h4
  have l7 : gm < W.heap.size := (Array.getElem?_eq_some_iff.1 h7).1
  refine ⟨gm, tv, D, (hh g (blk_lt h1) (fun c q fr e => by rw [h1] at e; cases e; exact .inl rfl)).trans h1, h2, h3, ⟨es, cl, (hh gm l7 (fun c q fr e => by rw [h7] at e; cases e)).trans h7, h8⟩, h5, Kd.R_map h6 (fun k c q fr e hq => hh k (Array.getElem?_eq_some_iff.1 e).1 (fun c' q' fr' e' => ?_))⟩
  rw [e] at e'
  cases e'
  exact .inr (by simpa [Kd.string, Kd.scalar] using hq)

abbrev KI : Kd (List Int) := Kd.slice 3 (Kd.int .i64)
/-- The rows behind k files, and j texts of the next. -/
def rowsAt (files : List (List ByteArray)) (k j : Nat) : List (List Int) :=
  idsMany [] (files.take k) ++ (idsOne (tabOf [] (files.take k)) ((files.getD k []).take j)).2 :: List.replicate (files.length - k - 1) []
theorem rowsAt_start (files : List (List ByteArray)) (k : Nat) (h : k < files.length) : idsMany [] (files.take k) ++ List.replicate (files.length - k) [] = rowsAt files k 0 := by
  have : files.length - k = (files.length - k - 1) + 1 := by omega
  rw [rowsAt, this, List.replicate_succ]
  simp [idsOne]
theorem rowsAt_end (files : List (List ByteArray)) (k : Nat) (h : k < files.length) : rowsAt files k (files.getD k []).length = idsMany [] (files.take (k + 1)) ++ List.replicate (files.length - (k + 1)) [] := by
  have h2 : files.take (k + 1) = files.take k ++ [files.getD k []] := by
    rw [← List.take_append_getElem h]; simp [h]
  rw [rowsAt, List.take_length, h2, idsMany_snoc, show files.length - k - 1 = files.length - (k + 1) by omega]
  simp
theorem rowsAt_len (files : List (List ByteArray)) (k j : Nat) (h : k < files.length) : (rowsAt files k j).length = files.length := by
  simp [rowsAt, idsMany_length]; omega
theorem rowsAt_get (files : List (List ByteArray)) (k j : Nat) (h : k < files.length) : (rowsAt files k j).getD k [] = (idsOne (tabOf [] (files.take k)) ((files.getD k []).take j)).2 := by
  have hl : (idsMany [] (files.take k)).length = k := by rw [idsMany_length, List.length_take]; omega
  rw [rowsAt, List.getD_eq_getElem?_getD, List.getElem?_append_right (by omega), hl]
  simp
theorem rowsAt_set (files : List (List ByteArray)) (k j : Nat) (h : k < files.length) (hj : j < (files.getD k []).length) : (rowsAt files k j).set k ((idsOne (tabOf [] (files.take k)) ((files.getD k []).take j)).2 ++ [(place (files.getD k [])[j] (idsOne (tabOf [] (files.take k)) ((files.getD k []).take j)).1 : Int)]) = rowsAt files k (j + 1) := by
  have hl : (idsMany [] (files.take k)).length = k := by rw [idsMany_length, List.length_take]; omega
  rw [rowsAt, List.set_append_right _ _ (by omega), hl, Nat.sub_self, List.set_cons_zero, rowsAt, ← List.take_append_getElem hj, idsOne_snoc]
def tabAt (files : List (List ByteArray)) (k j : Nat) : List ByteArray := (idsOne (tabOf [] (files.take k)) ((files.getD k []).take j)).1
theorem tabAt_step (files : List (List ByteArray)) (k j : Nat) (hj : j < (files.getD k []).length) : addT (tabAt files k j) (files.getD k [])[j] = tabAt files k (j + 1) := by
  rw [tabAt, tabAt, ← List.take_append_getElem hj, idsOne_snoc]
theorem tabAt_end (files : List (List ByteArray)) (k : Nat) (h : k < files.length) : tabAt files k (files.getD k []).length = tabOf [] (files.take (k + 1)) := by
  have h2 : files.take (k + 1) = files.take k ++ [files.getD k []] := by
    rw [← List.take_append_getElem h]; simp [h]
  rw [tabAt, List.take_length, h2, tabOf_snoc]
theorem tabAt_start (files : List (List ByteArray)) (k : Nat) : tabAt files k 0 = tabOf [] (files.take k) := by
  simp [tabAt, idsOne]
/-- How many texts. -/
def total (files : List (List ByteArray)) : Nat := (files.map List.length).sum
theorem tabOf_le : ∀ (t : List ByteArray) (ls : List (List ByteArray)), (tabOf t ls).length ≤ t.length + total ls
  | t, [] => by simp [tabOf, total]
  | t, l :: ls => by
    have h1 := tabOf_le (idsOne t l).1 ls
    have h2 := idsOne_table_le t l
    simp only [tabOf, total, List.map_cons, List.sum_cons] at h1 ⊢
    omega
theorem total_take (files : List (List ByteArray)) (k : Nat) (h : k < files.length) : total (files.take k) + (files.getD k []).length ≤ total files := by
  have h1 : files = files.take k ++ files.drop k := (List.take_append_drop k files).symm
  have h2 : files.drop k = files.getD k [] :: files.drop (k + 1) := by rw [List.drop_eq_getElem_cons h]; simp [h]
  have : total files = total (files.take k) + total (files.drop k) := by
    unfold total
    rw [← List.sum_append, ← List.map_append, List.take_append_drop]
  rw [this, h2]
  simp [total]
theorem tabAt_le (files : List (List ByteArray)) (k j : Nat) (h : k < files.length) : (tabAt files k j).length ≤ total files := by
  have h1 := idsOne_table_le (tabOf [] (files.take k)) ((files.getD k []).take j)
  have h2 := tabOf_le [] (files.take k)
  have h3 := total_take files k h
  rw [List.length_take] at h1
  simp only [List.length_nil] at h2
  rw [tabAt]; omega

def intern_All.f (files : List (List ByteArray)) : Option (List (List Int)) := if files.length ≤ 1000 ∧ total files ≤ 1000000 ∧ ∀ l ∈ files, ∀ s ∈ l, s.size ≤ maxLen then some (idsAll files) else none

theorem S_types2 {W : World} {B : Nat} {v : Value} {rows : List (List Int)} (h : Kd.S KI 49 W B (fun _ => True) v rows) : Kd.S KI 49 W B (fun k => ∃ q, (q = 49 ∨ q = 3) ∧ k < W.heap.size ∧ ∃ cells, W.heap[k]? = some (.cells cells q (0, 0))) v rows :=
  Kd.S_mono (Kd.S_bound h) (fun k hk => by
    obtain ⟨_, _, hlt, q, hq, hc⟩ := hk
    refine ⟨q, ?_, hlt, hc⟩
    simpa [KI, Kd.slice, Kd.int, Kd.scalar] using hq)
theorem idstep {W W' : World} {k : Nat} (hk : IdKeeps W W') (h : ∃ q, (q = 49 ∨ q = 3) ∧ k < W.heap.size ∧ ∃ cells, W.heap[k]? = some (.cells cells q (0, 0))) : W'.heap[k]? = W.heap[k]? := by
  obtain ⟨q, hq, _, cells, hc⟩ := h
  rw [hc]
  exact hk.2 k cells q _ hc (by rcases hq with rfl | rfl <;> decide) (by rcases hq with rfl | rfl <;> decide)
/-- A row appended to, stored back. -/
theorem rows_put {W W3 : World} {B go n c2 k : Nat} {v1 v3 : Value} {rows : List (List Int)} {row row' : List Int} {oki : Nat → Prop}
    (hH : Kd.H KI 49 W B (fun _ => True) (.slice (some ⟨go, 0, none⟩) n c2) rows (k : Int) (fun q => oki q ∨ True ∧ W.heap.size ≤ q) [v1])
    (hv : Kd.R (Kd.int .i64) 3 W B (fun q => oki q ∨ W.heap.size ≤ q) v1 row) (hg : W.grownBy W3 v1.ownBlock)
    (hr : Kd.R (Kd.int .i64) 3 W3 B (fun q => oki q ∨ W.heap.size ≤ q) v3 row') (ho : ∀ q, oki q → q ≠ go) (hgo : go < W.heap.size) (hn : rows.length = n) (hk : k < n) :
    Kd.S KI 49 (W3.setCell ⟨go, k, none⟩ v3) B (fun _ => True) (.slice (some ⟨go, 0, none⟩) n c2) (rows.set k row') := by
  have h3 := Kd.H_grown hH hg (fun q hq => by
    rcases hv.1 q hq with h | h
    · exact .inl h
    · exact .inr ⟨trivial, h⟩)
  have hone : ∀ q ∈ [v3], q.oneCell' = true := fun q hq => by rw [List.mem_singleton.1 hq]; exact (Kd.R_val hr).2
  have h4 := (Kd.H_seg h3 (by omega) (by omega) (seg := [v3]) (j := 0) (by simp [KI, Kd.slice]) hone).1
  have e : (k : Int).toNat * KI.sz + 0 = k := by simp [KI, Kd.slice]
  rw [e] at h4
  have h5 := Kd.H_back (x' := row') (okp := fun q => oki q ∨ W.heap.size ≤ q) h4 ⟨v3, rfl, Kd.R_far (p := ⟨go, k, none⟩) hr (fun q hq => by
    rcases hq with h | h
    · exact ho q h
    · show q ≠ go
      omega) _⟩ (fun q hq => hq.imp id (fun h => ⟨trivial, h⟩))
  rw [Int.toNat_natCast] at h5
  exact h5
theorem table_put {W W3 : World} {B g go k : Nat} {t : List ByteArray} {v1 v3 : Value} {row : List Int} {okx : Nat → Prop} {gc : Array Value} (h : TableIn W B g t) (hv : Kd.R (Kd.int .i64) 3 W B okx v1 row) (hg : W.grownBy W3 v1.ownBlock)
    (hb : W3.heap[go]? = some (.cells gc 49 (0, 0))) : TableIn (W3.setCell ⟨go, k, none⟩ v3) B g t := by
  refine (h.step (W' := W3) (fun q hq ht => hg.block q hq (fun e => ?_))).step (fun q hq ht => ?_)
  · obtain ⟨cells, hc⟩ := Kd.R_typed hv q e.symm
    rcases ht _ _ _ hc with h | h <;> exact absurd h (by decide)
  · refine heap_set_other (fun e => ?_) _
    subst e
    rcases ht _ _ _ hb with h | h <;> exact absurd h (by decide)

set_option maxRecDepth 100000 in
set_option maxHeartbeats 8000000 in
theorem intern_All.calls (A0 : Option Addr) (c0 : Nat) (l0 : List (List ByteArray)) (r : List (List Int)) (w : World) (hr0 : Kd.C (Kd.slice 9 Kd.string) w A0 l0.length l0) (hc0 : l0.length ≤ c0) (h : intern_All.f l0 = some r) :
    Calls Try.prog 30 #[.slice A0 l0.length c0] w fun e w' => ∃ v0_ : Value, e = .returned v0_ ∧ Kd.S KI 49 w' w.heap.size (fun _ => True) v0_ r ∧ Below w.heap.size w w' := by
  have HR0 := Aside0.mk hr0
  have HC0 := Aside0.mk hc0
  clear hr0 hc0
  unfold intern_All.f at h
  split at h
  · rename_i hf
    obtain ⟨hfl, htot, hsz⟩ := hf
    have h := Option.some.inj h
    subst h
    have HSZ := Aside0.mk hsz
    clear hsz
    obtain ⟨B, hBe⟩ : ∃ B, w.heap.size = B := ⟨_, rfl⟩
    have hBw : B ≤ w.heap.size := Nat.le_of_eq hBe.symm
    have HBe := Aside0.mk hBe
    clear hBe
    go_enter Try.func30, Try.ntmps30
    go_wp2_with fail
    refine (intern_New _).mono ?_
    rintro e w1 ⟨g, rfl, HT1, HB1⟩
    rw [HBe.out] at HT1 HB1
    go_wp2_with ((with_reducible refine gate_dst (N := 12) rfl ?_); go_loud (refine Kd.S_make KI (w0 := w) B 49 rfl (N := 12) rfl 44 _ _ rfl (l0.length : Int) rfl rfl Try.underlying44 (.slice none 0 0) 24 info49 rfl (by decide) (by omega) [] (ok := fun _ => True) (okp := fun _ => True) ⟨_, rfl, Kd.R_nil _ _ _ _ _⟩ (fun _ hk => hk) trivial (by omega) (by omega) HB1.out (Nat.le_trans hBw HB1.out.size) ?_; intro v2 w2 hs2 hb2 hg2 hnew2; have HS2 := Aside0.mk hs2; have HB2 := Aside0.mk hb2; have HT2 : Aside0 (TableIn w2 B g []) := ⟨HT1.out.step (fun k hk _ => hg2.block k hk (by simp))⟩; have HZ2 := Aside0.mk hg2.size; clear hs2 hb2 hg2 hnew2))
    have hrep : ∀ n : Nat, ((n : Int)).toNat = n := fun n => Int.toNat_natCast n
    rw [hrep] at HS2
    obtain ⟨A2, c2, rfl⟩ := Kd.S_slice HS2.out
    have HN : Aside0 ((List.replicate l0.length ([] : List Int)).length = l0.length) := ⟨by simp⟩
    rw [HN.out] at HS2 ⊢
    clear hrep
    go_loopw [15] (fun i wr => ∃ k : Nat, k ≤ l0.length ∧ i = .int .i64 k ∧ Aside0 (Kd.S KI 49 wr B (fun _ => True) (.slice A2 l0.length c2) (idsMany [] (l0.take k) ++ List.replicate (l0.length - k) [])) ∧ Aside0 (TableIn wr B g (tabOf [] (l0.take k))) ∧ Aside0 (Below B w wr)) (fun i _ => l0.length - (intOf i).toNat)
    case atStart => exact ⟨0, Nat.zero_le _, rfl, by simpa [idsMany] using HS2, HT2, HB2⟩
    case round =>
      obtain ⟨k, hk, rfl, HS, HT, HB⟩ := hrel
      by_cases hlt : k < l0.length
      · obtain ⟨ad, A5, c5, rfl, hrow, hc5, hC5⟩ := at_slice HR0.out k hlt
        replace hrow := (HB.out.cell (by rw [← HBe.out]; exact World.block_lt_of_cell? w _ hrow)).trans hrow
        obtain ⟨go, rfl⟩ : ∃ go, A2 = some ⟨go, 0, none⟩ := by
          obtain ⟨go, cap, e, _⟩ := Kd.S_form HS.out (by simp [idsMany_length]; omega)
          injection e with e1 e2 e3
          exact ⟨go, e1⟩
        obtain ⟨l, hl⟩ : ∃ l, l0.getD k [] = l := ⟨_, rfl⟩
        have HL := Aside0.mk hl
        rw [hl] at hrow hc5 hC5
        have HC5 := Aside0.mk hC5
        have Hc5 := Aside0.mk hc5
        have hlm : l ∈ l0 := by rw [← hl, getD_get hlt]; exact List.getElem_mem hlt
        have HLM := Aside0.mk hlm
        have htk := total_take l0 k hlt
        rw [hl] at htk
        clear hC5 hc5 hl hlm
        have HW0 := Aside0.mk (HB.out)
        go_wp2_with fail
        go_loopw [22] (fun i wj => ∃ j : Nat, j ≤ l.length ∧ i = .int .i64 j ∧ Aside0 (Kd.S KI 49 wj B (fun _ => True) (.slice (some ⟨go, 0, none⟩) l0.length c2) (rowsAt l0 k j)) ∧ Aside0 (TableIn wj B g (tabAt l0 k j)) ∧ Aside0 (Below B w wj)) (fun i _ => l.length - (intOf i).toNat)
        case atStart => exact ⟨0, Nat.zero_le _, rfl, by rw [← rowsAt_start l0 k hlt]; exact HS, by rw [tabAt_start]; exact HT, HB⟩
        case round =>
          obtain ⟨j, hj, rfl, HSj, HTj, HBj⟩ := hrel
          clear HS HT HB
          by_cases hjl : j < l.length
          · obtain ⟨ads, rfl, hstr⟩ := at_str HC5.out j hjl
            replace hstr := (HBj.out.cell (by rw [← HBe.out]; exact World.block_lt_of_cell? w _ hstr)).trans hstr
            have hsm : l.getD j ByteArray.empty ∈ l := by rw [getD_get hjl]; exact List.getElem_mem hjl
            have hrl := rowsAt_len l0 k j hlt
            have hrs : (rowsAt l0 k j).set k ((rowsAt l0 k j).getD k [] ++ [(place (l.getD j ByteArray.empty) (tabAt l0 k j) : Int)]) = rowsAt l0 k (j + 1) := by
              rw [rowsAt_get l0 k j hlt, ← rowsAt_set l0 k j hlt (by rw [HL.out]; exact hjl)]
              congr 3
              simp only [tabAt, HL.out, getD_get hjl]
            have hts : addT (tabAt l0 k j) (l.getD j ByteArray.empty) = tabAt l0 k (j + 1) := by
              rw [← tabAt_step l0 k j (by rw [HL.out]; exact hjl)]
              simp only [HL.out, getD_get hjl]
            have hrowlen : ((rowsAt l0 k j).getD k []).length ≤ 1000000 := by
              rw [rowsAt_get l0 k j hlt, idsOne_length, List.length_take]
              omega
            obtain ⟨s, hse⟩ : ∃ s, l.getD j ByteArray.empty = s := ⟨_, rfl⟩
            rw [hse] at hstr hsm hrs hts
            have hsz : s.size ≤ maxLen := HSZ.out l HLM.out s hsm
            obtain ⟨row, hrow2⟩ : ∃ row, (rowsAt l0 k j).getD k [] = row := ⟨_, rfl⟩
            have HROW := Aside0.mk hrow2
            rw [hrow2] at hrs hrowlen
            have HRS := Aside0.mk hrs
            have HTS := Aside0.mk hts
            have htl := tabAt_le l0 k j hlt
            clear hrs hts hsm hse hrow2
            obtain ⟨oki, c, hcl, hM, hcc, hfz, hoki, hH⟩ := Kd.S_elem (S_types2 HSj.out) [] (k : Int) (by omega) (by omega)
            rw [Int.toNat_natCast, HROW.out] at hM
            obtain ⟨v1, rfl, hv1⟩ := hM
            obtain ⟨A1, c1, rfl⟩ := Kd.R_slice hv1
            have hcell : wr.cell? ⟨go, k, none⟩ = some (.slice A1 row.length c1) := by
              have := hcc 0 _ rfl
              simpa [KI, Kd.slice] using this
            obtain ⟨gcells, hgb⟩ := Kd.S_typed HSj.out go rfl
            have hgo := blk_lt hgb
            have hkg : (k : Int).toNat = k := Int.toNat_natCast k
            have HH := Aside0.mk hH
            have HV1 := Aside0.mk hv1
            have HOKI := Aside0.mk hoki
            have HGB := Aside0.mk hgb
            clear hcc hfz hoki hv1 hcl hH hgb hkg
            have hBj : B ≤ wr.heap.size := Nat.le_trans hBw HBj.out.size
            have hkI : ((k : Int) < (l0.length : Int)) = True := eq_true (by omega)
            have hkI0 : (0 ≤ (k : Int)) = True := eq_true (by omega)
            go_wp2
            refine start_ (n := 13) (S := fun w' => w'.cell? ⟨go, k, none⟩ = some (.slice A1 row.length c1)) (ds := [10, 12]) #[false, false, false, false, false, false, false, false, false, false, false, false, false] (by kernel_rfl) rfl rfl (hcell) (fun hHeld => ?_)
            refine pure_ (i := 0) (N := some 26) (v := ?_) (a' := ?_) #[true, false, false, false, false, false, false, false, false, false, false, false, false] rfl rfl (by kernel_rfl) (fun _ _ _ h => h) (Or.inl ⟨by rfl, ?_⟩) ?_ ?_
            rotate_left
            · intro w'
              go_simp
              with_reducible rfl
            rotate_left
            · simp only [Act.put, List.setIfInBounds_toArray, List.set_cons_zero, List.set_cons_succ, i64_w, i32_w]
              rfl
            refine pure_ (i := 1) (N := some 27) (v := ?_) (a' := ?_) #[true, true, false, false, false, false, false, false, false, false, false, false, false] rfl rfl (by kernel_rfl) (fun _ _ _ h => h) (Or.inl ⟨by rfl, ?_⟩) ?_ ?_
            rotate_left
            · intro w'
              go_simp
              with_reducible rfl
            rotate_left
            · simp only [Act.put, List.setIfInBounds_toArray, List.set_cons_zero, List.set_cons_succ, i64_w, i32_w]
              rfl
            refine pure_ (i := 2) (N := some 28) (v := ?_) (a' := ?_) #[true, true, true, false, false, false, false, false, false, false, false, false, false] rfl rfl (by kernel_rfl) (fun _ _ _ h => h) (Or.inl ⟨by rfl, ?_⟩) ?_ ?_
            rotate_left
            · intro w'
              go_simp
              with_reducible rfl
            rotate_left
            · simp only [Act.put, List.setIfInBounds_toArray, List.set_cons_zero, List.set_cons_succ, i64_w, i32_w]
              rfl
            refine pure_ (i := 3) (N := some 29) (v := ?_) (a' := ?_) #[true, true, true, true, false, false, false, false, false, false, false, false, false] rfl rfl (by kernel_rfl) (fun _ _ _ h => h) (Or.inl ⟨by rfl, ?_⟩) ?_ ?_
            rotate_left
            · intro w'
              go_simp
              with_reducible rfl
            rotate_left
            · simp only [Act.put, List.setIfInBounds_toArray, List.set_cons_zero, List.set_cons_succ, i64_w, i32_w]
              rfl
            refine pure_ (i := 4) (N := some 30) (v := ?_) (a' := ?_) #[true, true, true, true, true, false, false, false, false, false, false, false, false] rfl rfl (by kernel_rfl) (fun _ _ _ h => h) (Or.inl ⟨by rfl, ?_⟩) ?_ ?_
            rotate_left
            · intro w'
              go_simp
              with_reducible rfl
            rotate_left
            · simp only [Act.put, List.setIfInBounds_toArray, List.set_cons_zero, List.set_cons_succ, i64_w, i32_w]
              rfl
            refine pure_ (i := 6) (N := some 32) (v := ?_) (a' := ?_) #[true, true, true, true, true, false, true, false, false, false, false, false, false] rfl rfl (by kernel_rfl) (fun _ _ _ h => h) (Or.inl ⟨by rfl, ?_⟩) ?_ ?_
            rotate_left
            · intro w'
              go_simp
              with_reducible rfl
            rotate_left
            · simp only [Act.put, List.setIfInBounds_toArray, List.set_cons_zero, List.set_cons_succ, i64_w, i32_w]
              rfl
            refine pure_ (i := 7) (N := some 33) (v := ?_) (a' := ?_) #[true, true, true, true, true, false, true, true, false, false, false, false, false] rfl rfl (by kernel_rfl) (fun _ _ _ h => h) (Or.inl ⟨by rfl, ?_⟩) ?_ ?_
            rotate_left
            · intro w'
              go_simp
              with_reducible rfl
            rotate_left
            · simp only [Act.put, List.setIfInBounds_toArray, List.set_cons_zero, List.set_cons_succ, i64_w, i32_w]
              rfl
            refine take_ (i := 5) (N := some 31) (v := ?_) (a' := ?_) #[true, true, true, true, true, true, true, true, false, false, false, false, false] rfl rfl (by kernel_rfl) (fun _ _ _ h => h) (Or.inl ⟨by rfl, ?_⟩) hHeld ?_ ?_
            rotate_left
            · intro w' s0
              go_simp
              with_reducible rfl
            rotate_left
            · simp only [Act.put, List.setIfInBounds_toArray, List.set_cons_zero, List.set_cons_succ, i64_w, i32_w]
              rfl
            refine one_ (i := 8) (N := some 34) #[true, true, true, true, true, true, true, true, true, false, false, false, false] rfl rfl (by kernel_rfl) (by decide) (fun K hK => ?_)
            refine goes_ Try.func55 (by kernel_rfl) rfl #[.pointer (some ⟨g, 0, none⟩), .string s] (by rfl) rfl rfl (by simp only [List.map_toArray, List.map_cons, List.map_nil]; rfl) ?_
            with_reducible refine (table_Id g B (tabAt l0 k j) s wr.drew (HTj.out.same rfl) hsz (by omega) (by simpa using hBj)).mono ?_
            rintro e w2 ⟨rfl, HT2, HB2, HK2⟩
            refine ⟨_, rfl, ?_⟩
            have hg2 : w2.heap[go]? = some (.cells gcells 49 (0, 0)) := HK2.out.2 go gcells _ _ HGB.out (by decide) (by decide)
            have hcell2 : w2.cell? ⟨go, k, none⟩ = some (.slice A1 row.length c1) := by rw [← hcell]; simp only [World.cell?, hg2, HGB.out]
            have HG2 := Aside0.mk hg2
            have hv2 : Kd.R (Kd.int .i64) 3 w2 B (fun q => oki q ∨ w2.heap.size ≤ q) (.slice A1 row.length c1) row := Kd.R_mono (Kd.R_step HV1.out (fun q hq _ => idstep HK2.out (HOKI.out q hq).1)) (fun q h => .inl h)
            have HV2 := Aside0.mk hv2
            have HH2 := Aside0.mk (Kd.H_widen (Kd.H_mono (Kd.H_step HH.out (fun q hq _ _ => idstep HK2.out hq)) (fun q _ => trivial) (ok' := fun _ => True)))
            have HBW2 := Aside0.mk (Nat.le_trans hBj HK2.out.1)
            clear hg2 hv2
            refine hK.out _ _ (hcell2) (fun hHeld => ?_)
            clear hK K
            refine norm_ (a' := ?_) ?_ ?_
            rotate_left
            · show Act.put _ (some 34) _ = _
              simp only [Act.put, List.setIfInBounds_toArray, List.set_cons_zero, List.set_cons_succ, i64_w, i32_w]
              rfl
            refine one_ (i := 9) (N := some 35) #[true, true, true, true, true, true, true, true, true, true, false, false, false] rfl rfl (by kernel_rfl) (by decide) (fun K hK => ?_)
            refine value_ (w1 := ?_) (v := ?_) (by rfl) rfl ?_ ?_
            rotate_left 2
            · go_simp
              constructor
              · rfl
              · rfl
            refine hK.out _ _ (cell_alloc_of hcell2 _) (fun hHeld => ?_)
            clear hK K
            refine norm_ (a' := ?_) ?_ ?_
            rotate_left
            · show Act.put _ (some 35) _ = _
              simp only [Act.put, List.setIfInBounds_toArray, List.set_cons_zero, List.set_cons_succ, i64_w, i32_w]
              rfl
            refine last_ (i := 10) (N := some 36) #[true, true, true, true, true, true, true, true, true, true, true, false, false] rfl rfl (by kernel_rfl) (by decide) (fun K hK => ?_)
            refine Kd.R_append_step (Kd.int .i64) (w0 := w2) B (by rfl) (.tmp 31) (.tmp 35) 49 3 (.int .i64 0) 8 rfl Try.underlying49 info3 rfl (by decide) (by decide) (.slice A1 row.length c1) row (place s (tabAt l0 k j) : Int) [.int .i64 (place s (tabAt l0 k j) : Int)] (fun q => oki q ∨ w2.heap.size ≤ q) (fun _ => False) rfl rfl rfl (fun _ h => h.elim) (fun _ h => .inr h) ?aO (Below.refl _ _) HBW2.out (by omega) ?_
            (case aO => exact HV2.out)
            intro v3 w3 hr3 hb3 hg3 hat3
            obtain ⟨A3, c3, hv3⟩ := Kd.R_slice hr3
            subst hv3
            have hgn : some go ≠ (Value.slice A1 row.length c1).ownBlock := Kd.R_ne HV2.out HG2.out (by decide)
            have hgo2 : go < w2.heap.size := blk_lt HG2.out
            have hg3b := (hg3.block go hgo2 hgn).trans HG2.out
            have hcell3 : w3.cell? ⟨go, k, none⟩ = some (.slice A1 row.length c1) := by rw [← hcell2]; simp only [World.cell?, hg3b, HG2.out]
            have hfr3 : w3.frozen? ⟨go, k, none⟩ = false := frozen_of_row _ _ _ _ _ hg3b
            have HR3 := Aside0.mk hr3
            have HB3 := Aside0.mk hb3
            have HG3 := Aside0.mk hg3
            have HG3B := Aside0.mk hg3b
            clear hr3 hb3 hg3 hg3b hat3 hgn hcell2
            refine hK.out _ _ ?_
            clear hK K
            refine norm_ (a' := ?_) ?_ ?_
            rotate_left
            · show Act.put _ (some 36) _ = _
              simp only [Act.put, List.setIfInBounds_toArray, List.set_cons_zero, List.set_cons_succ, i64_w, i32_w]
              rfl
            refine pure_ (i := 11) (N := some 37) (v := ?_) (a' := ?_) #[true, true, true, true, true, true, true, true, true, true, true, true, false] rfl rfl (by kernel_rfl) (fun _ _ _ h => h) (Or.inl ⟨by rfl, ?_⟩) ?_ ?_
            rotate_left
            · intro w'
              go_simp
              with_reducible rfl
            rotate_left
            · simp only [Act.put, List.setIfInBounds_toArray, List.set_cons_zero, List.set_cons_succ, i64_w, i32_w]
              rfl
            refine last_ (i := 12) (N := none) #[true, true, true, true, true, true, true, true, true, true, true, true, true] rfl rfl (by kernel_rfl) (by decide) (fun K hK => ?_)
            refine skip_ (w1 := ?_) (by rfl) rfl ?_ ?_
            rotate_left
            · go_simp
              rfl
            refine hK.out _ _ ?_
            clear hK K
            refine done_ (by kernel_rfl) ?_

            clear hcell hcell3 hfr3
            go_wp2
            go_roundw
            case measure => simp [intOf]; omega
            case rel =>
              have hr3' := HR3.out
              rw [List.length_append, List.length_singleton] at hr3'
              refine ⟨j + 1, by omega, by go_num, ?_, ?_, ?_⟩
              · exact ⟨by rw [← HRS.out]; exact rows_put HH2.out HV2.out HG3.out hr3' (fun q hq => (HOKI.out q hq).2) hgo2 hrl hlt⟩
              · exact ⟨by rw [← HTS.out]; exact table_put HT2.out HV2.out HG3.out HG3B.out⟩
              · exact ⟨((HBj.out.drew.trans HB2.out).trans HB3.out).setCell (p := ⟨go, k, none⟩) (Kd.S_base HSj.out go rfl) _⟩
          · have hj' : j = l.length := by omega
            subst hj'
            go_wp2
            go_roundw
            case measure => simp [intOf]; omega
            case rel => exact ⟨k + 1, by omega, by go_num, by rw [← rowsAt_end l0 k hlt, HL.out]; exact HSj, by rw [← tabAt_end l0 k hlt, HL.out]; exact HTj, HBj⟩
      · have hk' : k = l0.length := by omega
        subst hk'
        go_wp2
        go_ret
        exact ⟨_, rfl, by simpa [idsAll, HBe.out] using HS.out, by rw [HBe.out]; exact HB.out⟩
  · cases h
end Go.Proofs.Ytnlekganlliikaa.X
