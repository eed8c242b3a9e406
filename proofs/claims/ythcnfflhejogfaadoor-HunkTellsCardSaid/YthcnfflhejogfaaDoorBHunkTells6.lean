/-
  Parts of one proof, one behind the other: XRn6, XKit, XBlk, XGives, XHp1, XHr1, XOpen, XRange, XShelf, XStr1.
-/
import Derived.Test.YthcnfflhejogfaaDoorBHunkTells5
import Derived.IntWalk
import Derived.Lib.Strings
import Derived.OpenShut
import Derived.ProofKit
import Derived.Deep.Slices
import Derived.SizedLaws
import Derived.Lib.SmallJoins
import Derived.RangeFuncNested
import Derived.RangeFuncBound
import Derived.RangeFuncCalls
import Derived.RangeFuncLeaves
import Derived.RangeFuncOwn
import Derived.Shelf.Strings.Builder1
import Derived.Shelf.Strings.Builder2
import Derived.Shelf.Strings.Trim
import Derived.Shelf.Small.Utf8
import Derived.Shelf.Small.Strs
import Derived.Shelf.Strings.BuilderF
import Derived.Shelf.Strings.BuilderK
import Derived.Shelf.Utf8.RuneCount
import Derived.Shelf.Strings.Builder2Cap
import Derived.Shelf.Strings.Search1
import Derived.Shelf.Strings.Search2
import Derived.Shelf.Strings.Search3
import Derived.Shelf.Strings.Count
import Derived.Shelf.LaysM
import Derived.Shelf.Strings.Shaped
import Derived.Shelf.Strings.Split
import Derived.Shelf.Strings.Replace
import Derived.Shelf.Strings.SplitShaped
import Derived.Shelf.Unicode.Decode
import Derived.Shelf.Strings.Runes
import Derived.Shelf.Strings.RuneCount
import Derived.Shelf.Strings.AsciiSet
import Derived.Shelf.Unicode.DecodeSlow
import Derived.Shelf.Unicode.DecodeAny
import Derived.Shelf.Unicode.DecodeLast
import Derived.Shelf.Strings.BuilderCap
import Derived.Shelf.Slices.Equal
import Derived.Shelf.Slices.Empties2
import Derived.Test.YthcnfflhejogfaaDoorProg
-- part XRn6
namespace Go.Proofs.YthcnfflhejogfaaDoor.X
open Go.RowKit Go.Proofs.YthcnfflhejogfaaDoorW.PrintWords Go.Proofs.YthcnfflhejogfaaDoorW.PrintLast Go.Proofs.YthcnfflhejogfaaDoorW.PrintMore
attribute [local go_sem] max2_int min2_int max_two min_two max_three min_three max_four min_four   -- for this text's walks alone
set_option linter.unusedVariables false
set_option linter.unusedSimpArgs false
attribute [local go_sem high] eqA45
mutual
def sennitref21_Same.l0 : Nat → List (S48) → List (S48) → Int → Option (Bool)
  | 0, _, _, _ => none
  | k + 1, x0, x1, x5 => if x5 < (x0.length : Int) then (if 0 ≤ x5 then (if x5 < (x1.length : Int) then (if (!(((rd_T48 x0 x5).f1.f0) == ((rd_T48 x1 x5).f1.f0)) || (!(((rd_T48 x0 x5).f1.f1) == ((rd_T48 x1 x5).f1.f1)))) = true then (sennitref21_Same.j1 k x0 x1 x5 true) else (if (((rd_T48 x0 x5).f0).length : Int) = (((rd_T48 x1 x5).f0).length : Int) then ((sennitref19_Same.f k ((rd_T48 x0 x5).f2) ((rd_T48 x1 x5).f2)).bind fun t173 => (sennitref21_Same.j1 k x0 x1 x5 (!t173))) else (sennitref21_Same.j1 k x0 x1 x5 true))) else (none)) else (none)) else (some true)
def sennitref21_Same.j1 : Nat → List (S48) → List (S48) → Int → Bool → Option (Bool)
  | 0, _, _, _, _ => none
  | k + 1, x0, x1, x5, x57 => if x57 = true then (some false) else (sennitref21_Same.l1 k x0 x1 x5 0)
def sennitref21_Same.l1 : Nat → List (S48) → List (S48) → Int → Int → Option (Bool)
  | 0, _, _, _, _ => none
  | k + 1, x0, x1, x5, x6 => if 0 ≤ x5 then (if x5 < (x0.length : Int) then (if x6 < (((rd_T48 x0 x5).f0).length : Int) then (if 0 ≤ x6 then (if x5 < (x1.length : Int) then (if x6 < (((rd_T48 x1 x5).f0).length : Int) then (if (!(((rd_T45 ((rd_T48 x0 x5).f0) x6).f0) == ((rd_T45 ((rd_T48 x1 x5).f0) x6).f0)) || (!(((rd_T45 ((rd_T48 x0 x5).f0) x6).f1) == ((rd_T45 ((rd_T48 x1 x5).f0) x6).f1)))) = true then (some false) else (sennitref21_Same.l1 k x0 x1 x5 (wrap64 (x6 + 1)))) else (none)) else (none)) else (none)) else (sennitref21_Same.l0 k x0 x1 (wrap64 (x5 + 1)))) else (none)) else (none)
end
def sennitref21_Same.f (k : Nat) (l0 : List (S48)) (l1 : List (S48)) : Option (Bool) := if (l0.length : Int) = (l1.length : Int) then (sennitref21_Same.l0 k l0 l1 0) else (some false)
def sennitref21_Same.T6 : Bool × List (List Nat × List Nat) := (true, [([], []), ([], []), ([0, 1], [0, 1]), ([2], [2]), ([3], [3]), ([], []), ([], []), ([5, 6], [5, 6]), ([7], [7]), ([8], [8]), ([4, 9], [4, 9]), ([10], [10]), ([11], [11]), ([11], [11]), ([12, 13, 11], [11, 12, 13]), ([14, 11], [11, 14]), ([15, 11], [11, 15]), ([16, 11], [11, 16]), ([11], [11]), ([11], [11]), ([18, 19, 11], [11, 18, 19]), ([20, 11], [11, 20]), ([21, 11], [11, 21]), ([22, 11], [11, 22]), ([17, 23, 11], [11, 17, 23]), ([11, 24], [11, 24]), ([25, 11], [25]), ([26], [26]), ([26], [26]), ([27, 28, 26], [26, 27, 28]), ([29, 26], [26, 29]), ([30, 26], [26, 30]), ([26], [26]), ([26], [26]), ([32, 33, 26], [26, 32, 33]), ([34, 26], [26, 34]), ([35, 26], [26, 35]), ([31, 36, 26, 26], [26, 31, 36]), ([37, 26], [26, 37]), ([26, 38], [26, 38])])
def sennitref21_Same.B6 : List Nat := [0, 0, 3, 7, 15, 0, 0, 96, 224, 480, 1023, 2047, 4095, 4095, 16383, 32767, 65535, 131071, 4095, 4095, 790527, 1839103, 3936255, 8130559, 16777215, 33554431, 67108863, 134217727, 134217727, 536870911, 1073741823, 2147483647, 134217727, 134217727, 13019119615, 30198988799, 64558727167, 137438953471, 274877906943, 549755813887]
theorem sennitref21_Same.tab6 : rtab .any (opsOf Tryd.f29 6) = sennitref21_Same.T6 := by kernel_rfl
theorem sennitref21_Same.bits6 : waitsOk sennitref21_Same.T6.2 sennitref21_Same.B6 = true := by kernel_rfl
def sennitref21_Same.T11 : Bool × List (List Nat × List Nat) := (true, [([], []), ([], []), ([0, 1], [0, 1]), ([2], [2]), ([3], [3]), ([], []), ([4, 5], [4, 5]), ([6], [6]), ([], []), ([], []), ([8, 9], [8, 9]), ([10], [10]), ([11], [11]), ([], []), ([12, 13], [12, 13]), ([14], [14]), ([7, 15], [7, 15])])
def sennitref21_Same.B11 : List Nat := [0, 0, 3, 7, 15, 0, 63, 127, 0, 0, 768, 1792, 3840, 0, 16128, 32512, 65535]
theorem sennitref21_Same.tab11 : rtab .any (opsOf Tryd.f29 11) = sennitref21_Same.T11 := by kernel_rfl
theorem sennitref21_Same.bits11 : waitsOk sennitref21_Same.T11.2 sennitref21_Same.B11 = true := by kernel_rfl
set_option maxHeartbeats 8000000 in
set_option maxRecDepth 100000 in
theorem sennitref21_Same.calls (k : Nat) (A0 : Option Addr) (c0 : Nat) (l0 : List (S48)) (A1 : Option Addr) (c1 : Nat) (l1 : List (S48)) (r : Bool) (w : World) (hr0 : Kd.C k48 w A0 l0.length l0) (hc0 : l0.length ≤ c0) (hr1 : Kd.C k48 w A1 l1.length l1) (hc1 : l1.length ≤ c1) (h : sennitref21_Same.f k l0 l1 = some r) :
    Calls Tryd.prog 29 #[.slice A0 l0.length c0, .slice A1 l1.length c1] w fun e w' => e = .returned (.bool r) ∧ Below w.heap.size w w' := by
  have hu45 := Tryd.underlying45
  have HR0 := Aside0.mk hr0
  have HC0 := Aside0.mk hc0
  clear hr0 hc0
  have HR1 := Aside0.mk hr1
  have HC1 := Aside0.mk hc1
  clear hr1 hc1
  have HB := Aside0.mk (Below.refl w.heap.size w)
  have H : (if (l0.length : Int) = (l1.length : Int) then (sennitref21_Same.l0 k l0 l1 0) else (some false)) = some r := h
  clear h
  by_cases c3 : (l0.length : Int) = (l1.length : Int)
  · rw [if_pos c3] at H
    have c3b0 : ((l0.length : Int) == (l1.length : Int)) = true := beq_iff_eq.mpr c3
    have c3b1 : ((l0.length : Int) != (l1.length : Int)) = false := bne_eq_false_iff_eq.mpr c3
    have c3b2 : (l0.length == l1.length) = true := by first | simpa using c3 | (simp at c3 ⊢; omega)
    clear c3
    have H' := Aside0.mk H
    clear H
    go_enter Tryd.func29, Tryd.ntmps29
    go_wp2
    go_loopg [5] k (fun kq v5 w' => ∃ (x5_1 : Int), v5 = .int .i64 x5_1 ∧ Aside0 (sennitref21_Same.l0 kq l0 l1 x5_1 = some r) ∧ Aside0 (kq ≤ k) ∧ Aside0 (Below w.heap.size w w'))
    case atStart => exact ⟨(0), (by first | rfl | (simp; done) | (simp [*]; done)), H', ⟨Nat.le_refl _⟩, ⟨by repeat (first | (with_reducible first | exact HB.out | apply below_alloc | apply pw_below_drewN | apply below_drew1) | exact HB.out)⟩⟩
    case round =>
      clear H'
      try clear c1
      try clear c2
      try clear p2
      try clear c3
      try clear c3b0
      try clear c3b1
      try clear c3b2
      obtain ⟨x5_1, rfl, HA, HK1, HB⟩ := hrel
      cases gk with
      | zero => exact absurd HA.out (by simp [sennitref21_Same.l0])
      | succ k1 =>
        have H := HA.out
        clear HA
        simp only [sennitref21_Same.l0] at H
        by_cases c4 : x5_1 < (l0.length : Int)
        · rw [if_pos c4] at H
          have c4b0 : decide (x5_1 < (l0.length : Int)) = true := decide_eq_true c4
          clear c4
          have HC5 := Aside0.mk H
          clear H
          go_upto_region 6 with (fail)
          go_cut [57] (fun v57 wc => ∃ (kq : Nat) (x57_4 : Bool), v57 = .bool x57_4 ∧ Aside0 (sennitref21_Same.j1 kq l0 l1 x5_1 x57_4 = some r) ∧ Aside0 (kq ≤ k1) ∧ Aside0 (Below w.heap.size w wc))
          case first =>
            have H := HC5.out
            clear HC5
            by_cases c6 : 0 ≤ x5_1
            · rw [if_pos c6] at H
              have c6b0 : decide (0 ≤ x5_1) = true := decide_eq_true c6
              clear c6
              (first | rw [c6b0] | (simp only [i64_w, i32_w]; rw [c6b0]) | skip)
              by_cases c7 : x5_1 < (l1.length : Int)
              · rw [if_pos c7] at H
                have c7b0 : decide (x5_1 < (l1.length : Int)) = true := decide_eq_true c7
                clear c7
                by_cases c8 : (!(((rd_T48 l0 x5_1).f1.f0) == ((rd_T48 l1 x5_1).f1.f0)) || (!(((rd_T48 l0 x5_1).f1.f1) == ((rd_T48 l1 x5_1).f1.f1)))) = true
                · rw [if_pos c8] at H
                  have c8b0 : (!(((rd_T48 l0 x5_1).f1.f0) == ((rd_T48 l1 x5_1).f1.f0)) || (!(((rd_T48 l0 x5_1).f1.f1) == ((rd_T48 l1 x5_1).f1.f1)))) = true := c8
                  clear c8
                  have H' := Aside0.mk H
                  clear H
                  try go_wp2
                  have n0_ := Aside0.mk (below_drew1 HB.out)
                  clear HB
                  have HB := n0_
                  clear n0_
                  have p167 : 0 ≤ (x5_1 : Int) := of_decide_eq_true (by first | (with_reducible assumption) | assumption)
                  have q167 : x5_1 < (l0.length : Int) := of_decide_eq_true (by first | (with_reducible assumption) | assumption)
                  obtain ⟨ad167, A167_0, c167_0, A167_3, c167_3, e167, hx167_0, hx167_1, hx167_2, hx167_3, hl167_0, hi167_0, hl167_3, hi167_3⟩ := at_T48 HR0.out x5_1 p167 q167
                  have hw167_3 := hx167_3
                  have hw167_2 := hx167_2
                  have hw167_1 := hx167_1
                  have hw167_0 := hx167_0
                  cases e167
                  replace hx167_0 := (HB.out.cell (World.block_lt_of_cell? w _ hx167_0)).trans hx167_0
                  replace hx167_1 := (HB.out.cell (World.block_lt_of_cell? w _ hx167_1)).trans hx167_1
                  replace hx167_2 := (HB.out.cell (World.block_lt_of_cell? w _ hx167_2)).trans hx167_2
                  replace hx167_3 := (HB.out.cell (World.block_lt_of_cell? w _ hx167_3)).trans hx167_3
                  have HR167_0 := Aside0.mk hi167_0
                  have HC167_0 := Aside0.mk hl167_0
                  clear hi167_0 hl167_0
                  have HR167_3 := Aside0.mk hi167_3
                  have HC167_3 := Aside0.mk hl167_3
                  clear hi167_3 hl167_3
                  replace p167 := eq_true p167
                  replace q167 := eq_true q167
                  have p168 : 0 ≤ (x5_1 : Int) := of_decide_eq_true (by first | (with_reducible assumption) | assumption)
                  have q168 : x5_1 < (l1.length : Int) := of_decide_eq_true (by first | (with_reducible assumption) | assumption)
                  obtain ⟨ad168, A168_0, c168_0, A168_3, c168_3, e168, hx168_0, hx168_1, hx168_2, hx168_3, hl168_0, hi168_0, hl168_3, hi168_3⟩ := at_T48 HR1.out x5_1 p168 q168
                  have hw168_3 := hx168_3
                  have hw168_2 := hx168_2
                  have hw168_1 := hx168_1
                  have hw168_0 := hx168_0
                  cases e168
                  replace hx168_0 := (HB.out.cell (World.block_lt_of_cell? w _ hx168_0)).trans hx168_0
                  replace hx168_1 := (HB.out.cell (World.block_lt_of_cell? w _ hx168_1)).trans hx168_1
                  replace hx168_2 := (HB.out.cell (World.block_lt_of_cell? w _ hx168_2)).trans hx168_2
                  replace hx168_3 := (HB.out.cell (World.block_lt_of_cell? w _ hx168_3)).trans hx168_3
                  have HR168_0 := Aside0.mk hi168_0
                  have HC168_0 := Aside0.mk hl168_0
                  clear hi168_0 hl168_0
                  have HR168_3 := Aside0.mk hi168_3
                  have HC168_3 := Aside0.mk hl168_3
                  clear hi168_3 hl168_3
                  replace p168 := eq_true p168
                  replace q168 := eq_true q168
                  refine start_ (n := 40) (S := fun w' => w'.cell? (ad167.add ((x5_1).toNat * 4)) = some (.slice A167_0 ((rd_T48 l0 x5_1).f0).length c167_0) ∧ w'.cell? ⟨(ad167.add ((x5_1).toNat * 4)).block, (ad167.add ((x5_1).toNat * 4)).off + 1, none⟩ = some (.int .i64 ((rd_T48 l0 x5_1).f1.f0)) ∧ w'.cell? ⟨(ad167.add ((x5_1).toNat * 4)).block, (ad167.add ((x5_1).toNat * 4)).off + 2, none⟩ = some (.int .i64 ((rd_T48 l0 x5_1).f1.f1)) ∧ w'.cell? ⟨(ad167.add ((x5_1).toNat * 4)).block, (ad167.add ((x5_1).toNat * 4)).off + 3, none⟩ = some (.slice A167_3 ((rd_T48 l0 x5_1).f2).length c167_3) ∧ w'.cell? (ad168.add ((x5_1).toNat * 4)) = some (.slice A168_0 ((rd_T48 l1 x5_1).f0).length c168_0) ∧ w'.cell? ⟨(ad168.add ((x5_1).toNat * 4)).block, (ad168.add ((x5_1).toNat * 4)).off + 1, none⟩ = some (.int .i64 ((rd_T48 l1 x5_1).f1.f0)) ∧ w'.cell? ⟨(ad168.add ((x5_1).toNat * 4)).block, (ad168.add ((x5_1).toNat * 4)).off + 2, none⟩ = some (.int .i64 ((rd_T48 l1 x5_1).f1.f1)) ∧ w'.cell? ⟨(ad168.add ((x5_1).toNat * 4)).block, (ad168.add ((x5_1).toNat * 4)).off + 3, none⟩ = some (.slice A168_3 ((rd_T48 l1 x5_1).f2).length c168_3)) (ds := []) #[false, false, false, false, false, false, false, false, false, false, false, false, false, false, false, false, false, false, false, false, false, false, false, false, false, false, false, false, false, false, false, false, false, false, false, false, false, false, false, false] (by kernel_rfl) rfl rfl ⟨((HB.out.cell (World.block_lt_of_cell? w _ hw167_0)).trans hw167_0), ((HB.out.cell (World.block_lt_of_cell? w _ hw167_1)).trans hw167_1), ((HB.out.cell (World.block_lt_of_cell? w _ hw167_2)).trans hw167_2), ((HB.out.cell (World.block_lt_of_cell? w _ hw167_3)).trans hw167_3), ((HB.out.cell (World.block_lt_of_cell? w _ hw168_0)).trans hw168_0), ((HB.out.cell (World.block_lt_of_cell? w _ hw168_1)).trans hw168_1), ((HB.out.cell (World.block_lt_of_cell? w _ hw168_2)).trans hw168_2), ((HB.out.cell (World.block_lt_of_cell? w _ hw168_3)).trans hw168_3)⟩ (fun hHeld => ?_); refine with_tabW sennitref21_Same.tab6 sennitref21_Same.bits6 (fun HT_ HW_ => ?_)
                  generalize wr.drew = w9 at HB HR167_0 HR167_3 HR168_0 HR168_3 hx167_0 hx167_1 hx167_2 hx167_3 hx168_0 hx168_1 hx168_2 hx168_3 hHeld ⊢
                  refine pure_ (i := 0) (N := some 18) (v := ?_) (a' := ?_) #[true, false, false, false, false, false, false, false, false, false, false, false, false, false, false, false, false, false, false, false, false, false, false, false, false, false, false, false, false, false, false, false, false, false, false, false, false, false, false, false] rfl rfl (any_of HT_.out (by kernel_rfl)) (fun _ _ _ h => h) (Or.inl ⟨by rfl, ?_⟩) ?_ ?_
                  rotate_left
                  · intro w'
                    go_simp
                    with_reducible rfl
                  rotate_left
                  · simp only [Act.put, List.setIfInBounds_toArray, List.set_cons_zero, List.set_cons_succ, i64_w, i32_w]
                    rfl
                  refine pure_ (i := 1) (N := some 19) (v := ?_) (a' := ?_) #[true, true, false, false, false, false, false, false, false, false, false, false, false, false, false, false, false, false, false, false, false, false, false, false, false, false, false, false, false, false, false, false, false, false, false, false, false, false, false, false] rfl rfl (any_of HT_.out (by kernel_rfl)) (fun _ _ _ h => h) (Or.inl ⟨by rfl, ?_⟩) ?_ ?_
                  rotate_left
                  · intro w'
                    go_simp
                    with_reducible rfl
                  rotate_left
                  · simp only [Act.put, List.setIfInBounds_toArray, List.set_cons_zero, List.set_cons_succ, i64_w, i32_w]
                    rfl
                  refine pure_ (i := 2) (N := some 20) (v := ?_) (a' := ?_) #[true, true, true, false, false, false, false, false, false, false, false, false, false, false, false, false, false, false, false, false, false, false, false, false, false, false, false, false, false, false, false, false, false, false, false, false, false, false, false, false] rfl rfl (any_of HT_.out (by kernel_rfl)) (fun _ _ _ h => h) (Or.inl ⟨by rfl, ?_⟩) ?_ ?_
                  rotate_left
                  · intro w'
                    go_simp
                    with_reducible rfl
                  rotate_left
                  · simp only [Act.put, List.setIfInBounds_toArray, List.set_cons_zero, List.set_cons_succ, i64_w, i32_w]
                    rfl
                  refine pure_ (i := 3) (N := some 21) (v := ?_) (a' := ?_) #[true, true, true, true, false, false, false, false, false, false, false, false, false, false, false, false, false, false, false, false, false, false, false, false, false, false, false, false, false, false, false, false, false, false, false, false, false, false, false, false] rfl rfl (any_of HT_.out (by kernel_rfl)) (fun _ _ _ h => h) (Or.inl ⟨by rfl, ?_⟩) ?_ ?_
                  rotate_left
                  · intro w'
                    go_simp
                    with_reducible rfl
                  rotate_left
                  · simp only [Act.put, List.setIfInBounds_toArray, List.set_cons_zero, List.set_cons_succ, i64_w, i32_w]
                    rfl
                  refine pure_ (i := 5) (N := some 23) (v := ?_) (a' := ?_) #[true, true, true, true, false, true, false, false, false, false, false, false, false, false, false, false, false, false, false, false, false, false, false, false, false, false, false, false, false, false, false, false, false, false, false, false, false, false, false, false] rfl rfl (any_of HT_.out (by kernel_rfl)) (fun _ _ _ h => h) (Or.inl ⟨by rfl, ?_⟩) ?_ ?_
                  rotate_left
                  · intro w'
                    go_simp
                    with_reducible rfl
                  rotate_left
                  · simp only [Act.put, List.setIfInBounds_toArray, List.set_cons_zero, List.set_cons_succ, i64_w, i32_w]
                    rfl
                  refine pure_ (i := 6) (N := some 24) (v := ?_) (a' := ?_) #[true, true, true, true, false, true, true, false, false, false, false, false, false, false, false, false, false, false, false, false, false, false, false, false, false, false, false, false, false, false, false, false, false, false, false, false, false, false, false, false] rfl rfl (any_of HT_.out (by kernel_rfl)) (fun _ _ _ h => h) (Or.inl ⟨by rfl, ?_⟩) ?_ ?_
                  rotate_left
                  · intro w'
                    go_simp
                    with_reducible rfl
                  rotate_left
                  · simp only [Act.put, List.setIfInBounds_toArray, List.set_cons_zero, List.set_cons_succ, i64_w, i32_w]
                    rfl
                  refine pure_ (i := 7) (N := some 25) (v := ?_) (a' := ?_) #[true, true, true, true, false, true, true, true, false, false, false, false, false, false, false, false, false, false, false, false, false, false, false, false, false, false, false, false, false, false, false, false, false, false, false, false, false, false, false, false] rfl rfl (any_of HT_.out (by kernel_rfl)) (fun _ _ _ h => h) (Or.inl ⟨by rfl, ?_⟩) ?_ ?_
                  rotate_left
                  · intro w'
                    go_simp
                    with_reducible rfl
                  rotate_left
                  · simp only [Act.put, List.setIfInBounds_toArray, List.set_cons_zero, List.set_cons_succ, i64_w, i32_w]
                    rfl
                  refine pure_ (i := 8) (N := some 26) (v := ?_) (a' := ?_) #[true, true, true, true, false, true, true, true, true, false, false, false, false, false, false, false, false, false, false, false, false, false, false, false, false, false, false, false, false, false, false, false, false, false, false, false, false, false, false, false] rfl rfl (any_of HT_.out (by kernel_rfl)) (fun _ _ _ h => h) (Or.inl ⟨by rfl, ?_⟩) ?_ ?_
                  rotate_left
                  · intro w'
                    go_simp
                    with_reducible rfl
                  rotate_left
                  · simp only [Act.put, List.setIfInBounds_toArray, List.set_cons_zero, List.set_cons_succ, i64_w, i32_w]
                    rfl
                  refine take_ (i := 4) (N := some 22) (v := ?_) (a' := ?_) #[true, true, true, true, true, true, true, true, true, false, false, false, false, false, false, false, false, false, false, false, false, false, false, false, false, false, false, false, false, false, false, false, false, false, false, false, false, false, false, false] rfl rfl (take_ofW HT_.out HW_.out (by kernel_rfl)) (fun _ _ _ h => h) (Or.inl ⟨by rfl, ?_⟩) hHeld ?_ ?_
                  rotate_left
                  · rintro w' ⟨s0, s1, s2, s3, s4, s5, s6, s7⟩
                    go_simp
                    with_reducible rfl
                  rotate_left
                  · simp only [Act.put, List.setIfInBounds_toArray, List.set_cons_zero, List.set_cons_succ, i64_w, i32_w]
                    rfl
                  refine take_ (i := 9) (N := some 27) (v := ?_) (a' := ?_) #[true, true, true, true, true, true, true, true, true, true, false, false, false, false, false, false, false, false, false, false, false, false, false, false, false, false, false, false, false, false, false, false, false, false, false, false, false, false, false, false] rfl rfl (take_ofW HT_.out HW_.out (by kernel_rfl)) (fun _ _ _ h => h) (Or.inl ⟨by rfl, ?_⟩) hHeld ?_ ?_
                  rotate_left
                  · rintro w' ⟨s0, s1, s2, s3, s4, s5, s6, s7⟩
                    go_simp
                    with_reducible rfl
                  rotate_left
                  · simp only [Act.put, List.setIfInBounds_toArray, List.set_cons_zero, List.set_cons_succ, i64_w, i32_w]
                    rfl
                  refine pure_ (i := 10) (N := some 28) (v := ?_) (a' := ?_) #[true, true, true, true, true, true, true, true, true, true, true, false, false, false, false, false, false, false, false, false, false, false, false, false, false, false, false, false, false, false, false, false, false, false, false, false, false, false, false, false] rfl rfl (any_of HT_.out (by kernel_rfl)) (fun _ _ _ h => h) (Or.inl ⟨by rfl, ?_⟩) ?_ ?_
                  rotate_left
                  · intro w'
                    go_simp
                    with_reducible rfl
                  rotate_left
                  · simp only [Act.put, List.setIfInBounds_toArray, List.set_cons_zero, List.set_cons_succ, i64_w, i32_w]
                    rfl
                  refine pure_ (i := 11) (N := some 29) (v := ?_) (a' := ?_) #[true, true, true, true, true, true, true, true, true, true, true, true, false, false, false, false, false, false, false, false, false, false, false, false, false, false, false, false, false, false, false, false, false, false, false, false, false, false, false, false] rfl rfl (any_of HT_.out (by kernel_rfl)) (fun _ _ _ h => h) (Or.inl ⟨by rfl, ?_⟩) ?_ ?_
                  rotate_left
                  · intro w'
                    go_simp
                    with_reducible rfl
                  rotate_left
                  · simp only [Act.put, List.setIfInBounds_toArray, List.set_cons_zero, List.set_cons_succ, i64_w, i32_w]
                    rfl
                  refine pure_ (i := 12) (N := some 30) (v := undef) (a' := ?_) #[true, true, true, true, true, true, true, true, true, true, true, true, true, false, false, false, false, false, false, false, false, false, false, false, false, false, false, false, false, false, false, false, false, false, false, false, false, false, false, false] rfl rfl (any_of HT_.out (by kernel_rfl)) (fun _ _ _ h => h) (Or.inr ⟨by rfl, rfl⟩) ?_ ?_
                  rotate_left
                  · simp only [Act.put, List.setIfInBounds_toArray, List.set_cons_zero, List.set_cons_succ, i64_w, i32_w]
                    rfl
                  refine pure_ (i := 13) (N := some 31) (v := undef) (a' := ?_) #[true, true, true, true, true, true, true, true, true, true, true, true, true, true, false, false, false, false, false, false, false, false, false, false, false, false, false, false, false, false, false, false, false, false, false, false, false, false, false, false] rfl rfl (any_of HT_.out (by kernel_rfl)) (fun _ _ _ h => h) (Or.inr ⟨by rfl, rfl⟩) ?_ ?_
                  rotate_left
                  · simp only [Act.put, List.setIfInBounds_toArray, List.set_cons_zero, List.set_cons_succ, i64_w, i32_w]
                    rfl
                  refine pure_ (i := 14) (N := some 32) (v := undef) (a' := ?_) #[true, true, true, true, true, true, true, true, true, true, true, true, true, true, true, false, false, false, false, false, false, false, false, false, false, false, false, false, false, false, false, false, false, false, false, false, false, false, false, false] rfl rfl (any_of HT_.out (by kernel_rfl)) (fun _ _ _ h => h) (Or.inr ⟨by rfl, rfl⟩) ?_ ?_
                  rotate_left
                  · simp only [Act.put, List.setIfInBounds_toArray, List.set_cons_zero, List.set_cons_succ, i64_w, i32_w]
                    rfl
                  refine pure_ (i := 15) (N := some 33) (v := undef) (a' := ?_) #[true, true, true, true, true, true, true, true, true, true, true, true, true, true, true, true, false, false, false, false, false, false, false, false, false, false, false, false, false, false, false, false, false, false, false, false, false, false, false, false] rfl rfl (any_of HT_.out (by kernel_rfl)) (fun _ _ _ h => h) (Or.inr ⟨by rfl, rfl⟩) ?_ ?_
                  rotate_left
                  · simp only [Act.put, List.setIfInBounds_toArray, List.set_cons_zero, List.set_cons_succ, i64_w, i32_w]
                    rfl
                  refine pure_ (i := 16) (N := some 34) (v := undef) (a' := ?_) #[true, true, true, true, true, true, true, true, true, true, true, true, true, true, true, true, true, false, false, false, false, false, false, false, false, false, false, false, false, false, false, false, false, false, false, false, false, false, false, false] rfl rfl (any_of HT_.out (by kernel_rfl)) (fun _ _ _ h => h) (Or.inr ⟨by rfl, rfl⟩) ?_ ?_
                  rotate_left
                  · simp only [Act.put, List.setIfInBounds_toArray, List.set_cons_zero, List.set_cons_succ, i64_w, i32_w]
                    rfl
                  refine pure_ (i := 17) (N := some 35) (v := undef) (a' := ?_) #[true, true, true, true, true, true, true, true, true, true, true, true, true, true, true, true, true, true, false, false, false, false, false, false, false, false, false, false, false, false, false, false, false, false, false, false, false, false, false, false] rfl rfl (any_of HT_.out (by kernel_rfl)) (fun _ _ _ h => h) (Or.inr ⟨by rfl, rfl⟩) ?_ ?_
                  rotate_left
                  · simp only [Act.put, List.setIfInBounds_toArray, List.set_cons_zero, List.set_cons_succ, i64_w, i32_w]
                    rfl
                  refine pure_ (i := 18) (N := some 36) (v := undef) (a' := ?_) #[true, true, true, true, true, true, true, true, true, true, true, true, true, true, true, true, true, true, true, false, false, false, false, false, false, false, false, false, false, false, false, false, false, false, false, false, false, false, false, false] rfl rfl (any_of HT_.out (by kernel_rfl)) (fun _ _ _ h => h) (Or.inr ⟨by rfl, rfl⟩) ?_ ?_
                  rotate_left
                  · simp only [Act.put, List.setIfInBounds_toArray, List.set_cons_zero, List.set_cons_succ, i64_w, i32_w]
                    rfl
                  refine pure_ (i := 19) (N := some 37) (v := undef) (a' := ?_) #[true, true, true, true, true, true, true, true, true, true, true, true, true, true, true, true, true, true, true, true, false, false, false, false, false, false, false, false, false, false, false, false, false, false, false, false, false, false, false, false] rfl rfl (any_of HT_.out (by kernel_rfl)) (fun _ _ _ h => h) (Or.inr ⟨by rfl, rfl⟩) ?_ ?_
                  rotate_left
                  · simp only [Act.put, List.setIfInBounds_toArray, List.set_cons_zero, List.set_cons_succ, i64_w, i32_w]
                    rfl
                  refine pure_ (i := 20) (N := some 38) (v := undef) (a' := ?_) #[true, true, true, true, true, true, true, true, true, true, true, true, true, true, true, true, true, true, true, true, true, false, false, false, false, false, false, false, false, false, false, false, false, false, false, false, false, false, false, false] rfl rfl (any_of HT_.out (by kernel_rfl)) (fun _ _ _ h => h) (Or.inr ⟨by rfl, rfl⟩) ?_ ?_
                  rotate_left
                  · simp only [Act.put, List.setIfInBounds_toArray, List.set_cons_zero, List.set_cons_succ, i64_w, i32_w]
                    rfl
                  refine pure_ (i := 21) (N := some 39) (v := undef) (a' := ?_) #[true, true, true, true, true, true, true, true, true, true, true, true, true, true, true, true, true, true, true, true, true, true, false, false, false, false, false, false, false, false, false, false, false, false, false, false, false, false, false, false] rfl rfl (any_of HT_.out (by kernel_rfl)) (fun _ _ _ h => h) (Or.inr ⟨by rfl, rfl⟩) ?_ ?_
                  rotate_left
                  · simp only [Act.put, List.setIfInBounds_toArray, List.set_cons_zero, List.set_cons_succ, i64_w, i32_w]
                    rfl
                  refine pure_ (i := 22) (N := some 40) (v := undef) (a' := ?_) #[true, true, true, true, true, true, true, true, true, true, true, true, true, true, true, true, true, true, true, true, true, true, true, false, false, false, false, false, false, false, false, false, false, false, false, false, false, false, false, false] rfl rfl (any_of HT_.out (by kernel_rfl)) (fun _ _ _ h => h) (Or.inr ⟨by rfl, rfl⟩) ?_ ?_
                  rotate_left
                  · simp only [Act.put, List.setIfInBounds_toArray, List.set_cons_zero, List.set_cons_succ, i64_w, i32_w]
                    rfl
                  refine pure_ (i := 23) (N := some 41) (v := undef) (a' := ?_) #[true, true, true, true, true, true, true, true, true, true, true, true, true, true, true, true, true, true, true, true, true, true, true, true, false, false, false, false, false, false, false, false, false, false, false, false, false, false, false, false] rfl rfl (any_of HT_.out (by kernel_rfl)) (fun _ _ _ h => h) (Or.inr ⟨by rfl, rfl⟩) ?_ ?_
                  rotate_left
                  · simp only [Act.put, List.setIfInBounds_toArray, List.set_cons_zero, List.set_cons_succ, i64_w, i32_w]
                    rfl
                  refine pure_ (i := 24) (N := some 42) (v := undef) (a' := ?_) #[true, true, true, true, true, true, true, true, true, true, true, true, true, true, true, true, true, true, true, true, true, true, true, true, true, false, false, false, false, false, false, false, false, false, false, false, false, false, false, false] rfl rfl (any_of HT_.out (by kernel_rfl)) (fun _ _ _ h => h) (Or.inr ⟨by rfl, rfl⟩) ?_ ?_
                  rotate_left
                  · simp only [Act.put, List.setIfInBounds_toArray, List.set_cons_zero, List.set_cons_succ, i64_w, i32_w]
                    rfl
                  refine pure_ (i := 25) (N := some 43) (v := ?_) (a' := ?_) #[true, true, true, true, true, true, true, true, true, true, true, true, true, true, true, true, true, true, true, true, true, true, true, true, true, true, false, false, false, false, false, false, false, false, false, false, false, false, false, false] rfl rfl (any_of HT_.out (by kernel_rfl)) (fun _ _ _ h => h) (Or.inl ⟨by rfl, ?_⟩) ?_ ?_
                  rotate_left
                  · intro w'
                    go_simp
                    with_reducible rfl
                  rotate_left
                  · simp only [Act.put, List.setIfInBounds_toArray, List.set_cons_zero, List.set_cons_succ, i64_w, i32_w]
                    rfl
                  refine pure_ (i := 26) (N := some 44) (v := ?_) (a' := ?_) #[true, true, true, true, true, true, true, true, true, true, true, true, true, true, true, true, true, true, true, true, true, true, true, true, true, true, true, false, false, false, false, false, false, false, false, false, false, false, false, false] rfl rfl (any_of HT_.out (by kernel_rfl)) (fun _ _ _ h => h) (Or.inl ⟨by rfl, ?_⟩) ?_ ?_
                  rotate_left
                  · intro w'
                    go_simp
                    with_reducible rfl
                  rotate_left
                  · simp only [Act.put, List.setIfInBounds_toArray, List.set_cons_zero, List.set_cons_succ, i64_w, i32_w]
                    rfl
                  refine pure_ (i := 27) (N := some 45) (v := undef) (a' := ?_) #[true, true, true, true, true, true, true, true, true, true, true, true, true, true, true, true, true, true, true, true, true, true, true, true, true, true, true, true, false, false, false, false, false, false, false, false, false, false, false, false] rfl rfl (any_of HT_.out (by kernel_rfl)) (fun _ _ _ h => h) (Or.inr ⟨by rfl, rfl⟩) ?_ ?_
                  rotate_left
                  · simp only [Act.put, List.setIfInBounds_toArray, List.set_cons_zero, List.set_cons_succ, i64_w, i32_w]
                    rfl
                  refine pure_ (i := 28) (N := some 46) (v := undef) (a' := ?_) #[true, true, true, true, true, true, true, true, true, true, true, true, true, true, true, true, true, true, true, true, true, true, true, true, true, true, true, true, true, false, false, false, false, false, false, false, false, false, false, false] rfl rfl (any_of HT_.out (by kernel_rfl)) (fun _ _ _ h => h) (Or.inr ⟨by rfl, rfl⟩) ?_ ?_
                  rotate_left
                  · simp only [Act.put, List.setIfInBounds_toArray, List.set_cons_zero, List.set_cons_succ, i64_w, i32_w]
                    rfl
                  refine pure_ (i := 29) (N := some 47) (v := undef) (a' := ?_) #[true, true, true, true, true, true, true, true, true, true, true, true, true, true, true, true, true, true, true, true, true, true, true, true, true, true, true, true, true, true, false, false, false, false, false, false, false, false, false, false] rfl rfl (any_of HT_.out (by kernel_rfl)) (fun _ _ _ h => h) (Or.inr ⟨by rfl, rfl⟩) ?_ ?_
                  rotate_left
                  · simp only [Act.put, List.setIfInBounds_toArray, List.set_cons_zero, List.set_cons_succ, i64_w, i32_w]
                    rfl
                  refine pure_ (i := 30) (N := some 48) (v := undef) (a' := ?_) #[true, true, true, true, true, true, true, true, true, true, true, true, true, true, true, true, true, true, true, true, true, true, true, true, true, true, true, true, true, true, true, false, false, false, false, false, false, false, false, false] rfl rfl (any_of HT_.out (by kernel_rfl)) (fun _ _ _ h => h) (Or.inr ⟨by rfl, rfl⟩) ?_ ?_
                  rotate_left
                  · simp only [Act.put, List.setIfInBounds_toArray, List.set_cons_zero, List.set_cons_succ, i64_w, i32_w]
                    rfl
                  refine pure_ (i := 31) (N := some 49) (v := undef) (a' := ?_) #[true, true, true, true, true, true, true, true, true, true, true, true, true, true, true, true, true, true, true, true, true, true, true, true, true, true, true, true, true, true, true, true, false, false, false, false, false, false, false, false] rfl rfl (any_of HT_.out (by kernel_rfl)) (fun _ _ _ h => h) (Or.inr ⟨by rfl, rfl⟩) ?_ ?_
                  rotate_left
                  · simp only [Act.put, List.setIfInBounds_toArray, List.set_cons_zero, List.set_cons_succ, i64_w, i32_w]
                    rfl
                  refine pure_ (i := 32) (N := some 50) (v := undef) (a' := ?_) #[true, true, true, true, true, true, true, true, true, true, true, true, true, true, true, true, true, true, true, true, true, true, true, true, true, true, true, true, true, true, true, true, true, false, false, false, false, false, false, false] rfl rfl (any_of HT_.out (by kernel_rfl)) (fun _ _ _ h => h) (Or.inr ⟨by rfl, rfl⟩) ?_ ?_
                  rotate_left
                  · simp only [Act.put, List.setIfInBounds_toArray, List.set_cons_zero, List.set_cons_succ, i64_w, i32_w]
                    rfl
                  refine pure_ (i := 33) (N := some 51) (v := undef) (a' := ?_) #[true, true, true, true, true, true, true, true, true, true, true, true, true, true, true, true, true, true, true, true, true, true, true, true, true, true, true, true, true, true, true, true, true, true, false, false, false, false, false, false] rfl rfl (any_of HT_.out (by kernel_rfl)) (fun _ _ _ h => h) (Or.inr ⟨by rfl, rfl⟩) ?_ ?_
                  rotate_left
                  · simp only [Act.put, List.setIfInBounds_toArray, List.set_cons_zero, List.set_cons_succ, i64_w, i32_w]
                    rfl
                  refine pure_ (i := 34) (N := some 52) (v := undef) (a' := ?_) #[true, true, true, true, true, true, true, true, true, true, true, true, true, true, true, true, true, true, true, true, true, true, true, true, true, true, true, true, true, true, true, true, true, true, true, false, false, false, false, false] rfl rfl (any_of HT_.out (by kernel_rfl)) (fun _ _ _ h => h) (Or.inr ⟨by rfl, rfl⟩) ?_ ?_
                  rotate_left
                  · simp only [Act.put, List.setIfInBounds_toArray, List.set_cons_zero, List.set_cons_succ, i64_w, i32_w]
                    rfl
                  refine pure_ (i := 35) (N := some 53) (v := undef) (a' := ?_) #[true, true, true, true, true, true, true, true, true, true, true, true, true, true, true, true, true, true, true, true, true, true, true, true, true, true, true, true, true, true, true, true, true, true, true, true, false, false, false, false] rfl rfl (any_of HT_.out (by kernel_rfl)) (fun _ _ _ h => h) (Or.inr ⟨by rfl, rfl⟩) ?_ ?_
                  rotate_left
                  · simp only [Act.put, List.setIfInBounds_toArray, List.set_cons_zero, List.set_cons_succ, i64_w, i32_w]
                    rfl
                  refine pure_ (i := 36) (N := some 54) (v := undef) (a' := ?_) #[true, true, true, true, true, true, true, true, true, true, true, true, true, true, true, true, true, true, true, true, true, true, true, true, true, true, true, true, true, true, true, true, true, true, true, true, true, false, false, false] rfl rfl (any_of HT_.out (by kernel_rfl)) (fun _ _ _ h => h) (Or.inr ⟨by rfl, rfl⟩) ?_ ?_
                  rotate_left
                  · simp only [Act.put, List.setIfInBounds_toArray, List.set_cons_zero, List.set_cons_succ, i64_w, i32_w]
                    rfl
                  refine pure_ (i := 37) (N := some 55) (v := undef) (a' := ?_) #[true, true, true, true, true, true, true, true, true, true, true, true, true, true, true, true, true, true, true, true, true, true, true, true, true, true, true, true, true, true, true, true, true, true, true, true, true, true, false, false] rfl rfl (any_of HT_.out (by kernel_rfl)) (fun _ _ _ h => h) (Or.inr ⟨by rfl, rfl⟩) ?_ ?_
                  rotate_left
                  · simp only [Act.put, List.setIfInBounds_toArray, List.set_cons_zero, List.set_cons_succ, i64_w, i32_w]
                    rfl
                  refine pure_ (i := 38) (N := some 56) (v := undef) (a' := ?_) #[true, true, true, true, true, true, true, true, true, true, true, true, true, true, true, true, true, true, true, true, true, true, true, true, true, true, true, true, true, true, true, true, true, true, true, true, true, true, true, false] rfl rfl (any_of HT_.out (by kernel_rfl)) (fun _ _ _ h => h) (Or.inr ⟨by rfl, rfl⟩) ?_ ?_
                  rotate_left
                  · simp only [Act.put, List.setIfInBounds_toArray, List.set_cons_zero, List.set_cons_succ, i64_w, i32_w]
                    rfl
                  refine pure_ (i := 39) (N := some 57) (v := ?_) (a' := ?_) #[true, true, true, true, true, true, true, true, true, true, true, true, true, true, true, true, true, true, true, true, true, true, true, true, true, true, true, true, true, true, true, true, true, true, true, true, true, true, true, true] rfl rfl (any_of HT_.out (by kernel_rfl)) (fun _ _ _ h => h) (Or.inl ⟨by rfl, ?_⟩) ?_ ?_
                  rotate_left
                  · intro w'
                    go_simp
                    with_reducible rfl
                  rotate_left
                  · simp only [Act.put, List.setIfInBounds_toArray, List.set_cons_zero, List.set_cons_succ, i64_w, i32_w]
                    rfl
                  refine done_ (done_of HT_.out (by kernel_rfl)) ?_
                  try go_wp2
                  go_meet
                  case rel => exact ⟨_, (true), (by first | rfl | (simp; done) | (simp [*]; done)), H', ⟨by have := HK1.out; first | omega | exact Nat.le_refl _⟩, ⟨by repeat (first | (with_reducible first | exact HB.out | apply below_alloc | apply pw_below_drewN | apply below_drew1) | exact HB.out)⟩⟩
                · rw [if_neg c8] at H
                  have c8b0 : (!(((rd_T48 l0 x5_1).f1.f0) == ((rd_T48 l1 x5_1).f1.f0)) || (!(((rd_T48 l0 x5_1).f1.f1) == ((rd_T48 l1 x5_1).f1.f1)))) = false := by simpa using c8
                  clear c8
                  by_cases c10 : (((rd_T48 l0 x5_1).f0).length : Int) = (((rd_T48 l1 x5_1).f0).length : Int)
                  · rw [if_pos c10] at H
                    have c10b0 : ((((rd_T48 l0 x5_1).f0).length : Int) == (((rd_T48 l1 x5_1).f0).length : Int)) = true := beq_iff_eq.mpr c10
                    have c10b1 : ((((rd_T48 l0 x5_1).f0).length : Int) != (((rd_T48 l1 x5_1).f0).length : Int)) = false := bne_eq_false_iff_eq.mpr c10
                    have c10b2 : (((rd_T48 l0 x5_1).f0).length == ((rd_T48 l1 x5_1).f0).length) = true := by first | simpa using c10 | (simp at c10 ⊢; omega)
                    clear c10
                    replace H := Option.bind_eq_some_iff.mp H
                    obtain ⟨t173, A110, H⟩ := H
                    replace H : (sennitref21_Same.j1 k1 l0 l1 x5_1 (!t173)) = some r := H
                    have A11 := Aside0.mk A110
                    clear A110
                    have H' := Aside0.mk H
                    clear H
                    try go_wp2
                    have n0_ := Aside0.mk (below_drew1 HB.out)
                    clear HB
                    have HB := n0_
                    clear n0_
                    have p167 : 0 ≤ (x5_1 : Int) := of_decide_eq_true (by first | (with_reducible assumption) | assumption)
                    have q167 : x5_1 < (l0.length : Int) := of_decide_eq_true (by first | (with_reducible assumption) | assumption)
                    obtain ⟨ad167, A167_0, c167_0, A167_3, c167_3, e167, hx167_0, hx167_1, hx167_2, hx167_3, hl167_0, hi167_0, hl167_3, hi167_3⟩ := at_T48 HR0.out x5_1 p167 q167
                    have hw167_3 := hx167_3
                    have hw167_2 := hx167_2
                    have hw167_1 := hx167_1
                    have hw167_0 := hx167_0
                    cases e167
                    replace hx167_0 := (HB.out.cell (World.block_lt_of_cell? w _ hx167_0)).trans hx167_0
                    replace hx167_1 := (HB.out.cell (World.block_lt_of_cell? w _ hx167_1)).trans hx167_1
                    replace hx167_2 := (HB.out.cell (World.block_lt_of_cell? w _ hx167_2)).trans hx167_2
                    replace hx167_3 := (HB.out.cell (World.block_lt_of_cell? w _ hx167_3)).trans hx167_3
                    have HR167_0 := Aside0.mk hi167_0
                    have HC167_0 := Aside0.mk hl167_0
                    clear hi167_0 hl167_0
                    have HR167_3 := Aside0.mk hi167_3
                    have HC167_3 := Aside0.mk hl167_3
                    clear hi167_3 hl167_3
                    replace p167 := eq_true p167
                    replace q167 := eq_true q167
                    have p168 : 0 ≤ (x5_1 : Int) := of_decide_eq_true (by first | (with_reducible assumption) | assumption)
                    have q168 : x5_1 < (l1.length : Int) := of_decide_eq_true (by first | (with_reducible assumption) | assumption)
                    obtain ⟨ad168, A168_0, c168_0, A168_3, c168_3, e168, hx168_0, hx168_1, hx168_2, hx168_3, hl168_0, hi168_0, hl168_3, hi168_3⟩ := at_T48 HR1.out x5_1 p168 q168
                    have hw168_3 := hx168_3
                    have hw168_2 := hx168_2
                    have hw168_1 := hx168_1
                    have hw168_0 := hx168_0
                    cases e168
                    replace hx168_0 := (HB.out.cell (World.block_lt_of_cell? w _ hx168_0)).trans hx168_0
                    replace hx168_1 := (HB.out.cell (World.block_lt_of_cell? w _ hx168_1)).trans hx168_1
                    replace hx168_2 := (HB.out.cell (World.block_lt_of_cell? w _ hx168_2)).trans hx168_2
                    replace hx168_3 := (HB.out.cell (World.block_lt_of_cell? w _ hx168_3)).trans hx168_3
                    have HR168_0 := Aside0.mk hi168_0
                    have HC168_0 := Aside0.mk hl168_0
                    clear hi168_0 hl168_0
                    have HR168_3 := Aside0.mk hi168_3
                    have HC168_3 := Aside0.mk hl168_3
                    clear hi168_3 hl168_3
                    replace p168 := eq_true p168
                    replace q168 := eq_true q168
                    have p169 : 0 ≤ (x5_1 : Int) := of_decide_eq_true (by first | (with_reducible assumption) | assumption)
                    have q169 : x5_1 < (l0.length : Int) := of_decide_eq_true (by first | (with_reducible assumption) | assumption)
                    obtain ⟨ad169, A169_0, c169_0, A169_3, c169_3, e169, hx169_0, hx169_1, hx169_2, hx169_3, hl169_0, hi169_0, hl169_3, hi169_3⟩ := at_T48 HR0.out x5_1 p169 q169
                    have hw169_3 := hx169_3
                    have hw169_2 := hx169_2
                    have hw169_1 := hx169_1
                    have hw169_0 := hx169_0
                    obtain rfl : ad167 = ad169 := (by injection e169)
                    replace hx169_0 := (HB.out.cell (World.block_lt_of_cell? w _ hx169_0)).trans hx169_0
                    replace hx169_1 := (HB.out.cell (World.block_lt_of_cell? w _ hx169_1)).trans hx169_1
                    replace hx169_2 := (HB.out.cell (World.block_lt_of_cell? w _ hx169_2)).trans hx169_2
                    replace hx169_3 := (HB.out.cell (World.block_lt_of_cell? w _ hx169_3)).trans hx169_3
                    have HR169_0 := Aside0.mk hi169_0
                    have HC169_0 := Aside0.mk hl169_0
                    clear hi169_0 hl169_0
                    have HR169_3 := Aside0.mk hi169_3
                    have HC169_3 := Aside0.mk hl169_3
                    clear hi169_3 hl169_3
                    replace p169 := eq_true p169
                    replace q169 := eq_true q169
                    have ea_ := Option.some.inj (hx167_0.symm.trans hx169_0)
                    injection ea_ with ea_ en_ ec_
                    subst ea_
                    subst ec_
                    clear en_
                    have ea_ := Option.some.inj (hx167_3.symm.trans hx169_3)
                    injection ea_ with ea_ en_ ec_
                    subst ea_
                    subst ec_
                    clear en_
                    have p170 : 0 ≤ (x5_1 : Int) := of_decide_eq_true (by first | (with_reducible assumption) | assumption)
                    have q170 : x5_1 < (l1.length : Int) := of_decide_eq_true (by first | (with_reducible assumption) | assumption)
                    obtain ⟨ad170, A170_0, c170_0, A170_3, c170_3, e170, hx170_0, hx170_1, hx170_2, hx170_3, hl170_0, hi170_0, hl170_3, hi170_3⟩ := at_T48 HR1.out x5_1 p170 q170
                    have hw170_3 := hx170_3
                    have hw170_2 := hx170_2
                    have hw170_1 := hx170_1
                    have hw170_0 := hx170_0
                    obtain rfl : ad168 = ad170 := (by injection e170)
                    replace hx170_0 := (HB.out.cell (World.block_lt_of_cell? w _ hx170_0)).trans hx170_0
                    replace hx170_1 := (HB.out.cell (World.block_lt_of_cell? w _ hx170_1)).trans hx170_1
                    replace hx170_2 := (HB.out.cell (World.block_lt_of_cell? w _ hx170_2)).trans hx170_2
                    replace hx170_3 := (HB.out.cell (World.block_lt_of_cell? w _ hx170_3)).trans hx170_3
                    have HR170_0 := Aside0.mk hi170_0
                    have HC170_0 := Aside0.mk hl170_0
                    clear hi170_0 hl170_0
                    have HR170_3 := Aside0.mk hi170_3
                    have HC170_3 := Aside0.mk hl170_3
                    clear hi170_3 hl170_3
                    replace p170 := eq_true p170
                    replace q170 := eq_true q170
                    have ea_ := Option.some.inj (hx168_0.symm.trans hx170_0)
                    injection ea_ with ea_ en_ ec_
                    subst ea_
                    subst ec_
                    clear en_
                    have ea_ := Option.some.inj (hx168_3.symm.trans hx170_3)
                    injection ea_ with ea_ en_ ec_
                    subst ea_
                    subst ec_
                    clear en_
                    have p171 : 0 ≤ (x5_1 : Int) := of_decide_eq_true (by first | (with_reducible assumption) | assumption)
                    have q171 : x5_1 < (l0.length : Int) := of_decide_eq_true (by first | (with_reducible assumption) | assumption)
                    obtain ⟨ad171, A171_0, c171_0, A171_3, c171_3, e171, hx171_0, hx171_1, hx171_2, hx171_3, hl171_0, hi171_0, hl171_3, hi171_3⟩ := at_T48 HR0.out x5_1 p171 q171
                    have hw171_3 := hx171_3
                    have hw171_2 := hx171_2
                    have hw171_1 := hx171_1
                    have hw171_0 := hx171_0
                    obtain rfl : ad167 = ad171 := (by injection e171)
                    replace hx171_0 := (HB.out.cell (World.block_lt_of_cell? w _ hx171_0)).trans hx171_0
                    replace hx171_1 := (HB.out.cell (World.block_lt_of_cell? w _ hx171_1)).trans hx171_1
                    replace hx171_2 := (HB.out.cell (World.block_lt_of_cell? w _ hx171_2)).trans hx171_2
                    replace hx171_3 := (HB.out.cell (World.block_lt_of_cell? w _ hx171_3)).trans hx171_3
                    have HR171_0 := Aside0.mk hi171_0
                    have HC171_0 := Aside0.mk hl171_0
                    clear hi171_0 hl171_0
                    have HR171_3 := Aside0.mk hi171_3
                    have HC171_3 := Aside0.mk hl171_3
                    clear hi171_3 hl171_3
                    replace p171 := eq_true p171
                    replace q171 := eq_true q171
                    have ea_ := Option.some.inj (hx167_0.symm.trans hx171_0)
                    injection ea_ with ea_ en_ ec_
                    subst ea_
                    subst ec_
                    clear en_
                    have ea_ := Option.some.inj (hx167_3.symm.trans hx171_3)
                    injection ea_ with ea_ en_ ec_
                    subst ea_
                    subst ec_
                    clear en_
                    have p172 : 0 ≤ (x5_1 : Int) := of_decide_eq_true (by first | (with_reducible assumption) | assumption)
                    have q172 : x5_1 < (l1.length : Int) := of_decide_eq_true (by first | (with_reducible assumption) | assumption)
                    obtain ⟨ad172, A172_0, c172_0, A172_3, c172_3, e172, hx172_0, hx172_1, hx172_2, hx172_3, hl172_0, hi172_0, hl172_3, hi172_3⟩ := at_T48 HR1.out x5_1 p172 q172
                    have hw172_3 := hx172_3
                    have hw172_2 := hx172_2
                    have hw172_1 := hx172_1
                    have hw172_0 := hx172_0
                    obtain rfl : ad168 = ad172 := (by injection e172)
                    replace hx172_0 := (HB.out.cell (World.block_lt_of_cell? w _ hx172_0)).trans hx172_0
                    replace hx172_1 := (HB.out.cell (World.block_lt_of_cell? w _ hx172_1)).trans hx172_1
                    replace hx172_2 := (HB.out.cell (World.block_lt_of_cell? w _ hx172_2)).trans hx172_2
                    replace hx172_3 := (HB.out.cell (World.block_lt_of_cell? w _ hx172_3)).trans hx172_3
                    have HR172_0 := Aside0.mk hi172_0
                    have HC172_0 := Aside0.mk hl172_0
                    clear hi172_0 hl172_0
                    have HR172_3 := Aside0.mk hi172_3
                    have HC172_3 := Aside0.mk hl172_3
                    clear hi172_3 hl172_3
                    replace p172 := eq_true p172
                    replace q172 := eq_true q172
                    have ea_ := Option.some.inj (hx168_0.symm.trans hx172_0)
                    injection ea_ with ea_ en_ ec_
                    subst ea_
                    subst ec_
                    clear en_
                    have ea_ := Option.some.inj (hx168_3.symm.trans hx172_3)
                    injection ea_ with ea_ en_ ec_
                    subst ea_
                    subst ec_
                    clear en_
                    refine start_ (n := 40) (S := fun w' => w'.cell? (ad167.add ((x5_1).toNat * 4)) = some (.slice A167_0 ((rd_T48 l0 x5_1).f0).length c167_0) ∧ w'.cell? ⟨(ad167.add ((x5_1).toNat * 4)).block, (ad167.add ((x5_1).toNat * 4)).off + 1, none⟩ = some (.int .i64 ((rd_T48 l0 x5_1).f1.f0)) ∧ w'.cell? ⟨(ad167.add ((x5_1).toNat * 4)).block, (ad167.add ((x5_1).toNat * 4)).off + 2, none⟩ = some (.int .i64 ((rd_T48 l0 x5_1).f1.f1)) ∧ w'.cell? ⟨(ad167.add ((x5_1).toNat * 4)).block, (ad167.add ((x5_1).toNat * 4)).off + 3, none⟩ = some (.slice A167_3 ((rd_T48 l0 x5_1).f2).length c167_3) ∧ w'.cell? (ad168.add ((x5_1).toNat * 4)) = some (.slice A168_0 ((rd_T48 l1 x5_1).f0).length c168_0) ∧ w'.cell? ⟨(ad168.add ((x5_1).toNat * 4)).block, (ad168.add ((x5_1).toNat * 4)).off + 1, none⟩ = some (.int .i64 ((rd_T48 l1 x5_1).f1.f0)) ∧ w'.cell? ⟨(ad168.add ((x5_1).toNat * 4)).block, (ad168.add ((x5_1).toNat * 4)).off + 2, none⟩ = some (.int .i64 ((rd_T48 l1 x5_1).f1.f1)) ∧ w'.cell? ⟨(ad168.add ((x5_1).toNat * 4)).block, (ad168.add ((x5_1).toNat * 4)).off + 3, none⟩ = some (.slice A168_3 ((rd_T48 l1 x5_1).f2).length c168_3) ∧ w'.cell? (ad167.add ((x5_1).toNat * 4)) = some (.slice A167_0 ((rd_T48 l0 x5_1).f0).length c167_0) ∧ w'.cell? ⟨(ad167.add ((x5_1).toNat * 4)).block, (ad167.add ((x5_1).toNat * 4)).off + 1, none⟩ = some (.int .i64 ((rd_T48 l0 x5_1).f1.f0)) ∧ w'.cell? ⟨(ad167.add ((x5_1).toNat * 4)).block, (ad167.add ((x5_1).toNat * 4)).off + 2, none⟩ = some (.int .i64 ((rd_T48 l0 x5_1).f1.f1)) ∧ w'.cell? ⟨(ad167.add ((x5_1).toNat * 4)).block, (ad167.add ((x5_1).toNat * 4)).off + 3, none⟩ = some (.slice A167_3 ((rd_T48 l0 x5_1).f2).length c167_3) ∧ w'.cell? (ad168.add ((x5_1).toNat * 4)) = some (.slice A168_0 ((rd_T48 l1 x5_1).f0).length c168_0) ∧ w'.cell? ⟨(ad168.add ((x5_1).toNat * 4)).block, (ad168.add ((x5_1).toNat * 4)).off + 1, none⟩ = some (.int .i64 ((rd_T48 l1 x5_1).f1.f0)) ∧ w'.cell? ⟨(ad168.add ((x5_1).toNat * 4)).block, (ad168.add ((x5_1).toNat * 4)).off + 2, none⟩ = some (.int .i64 ((rd_T48 l1 x5_1).f1.f1)) ∧ w'.cell? ⟨(ad168.add ((x5_1).toNat * 4)).block, (ad168.add ((x5_1).toNat * 4)).off + 3, none⟩ = some (.slice A168_3 ((rd_T48 l1 x5_1).f2).length c168_3) ∧ w'.cell? (ad167.add ((x5_1).toNat * 4)) = some (.slice A167_0 ((rd_T48 l0 x5_1).f0).length c167_0) ∧ w'.cell? ⟨(ad167.add ((x5_1).toNat * 4)).block, (ad167.add ((x5_1).toNat * 4)).off + 1, none⟩ = some (.int .i64 ((rd_T48 l0 x5_1).f1.f0)) ∧ w'.cell? ⟨(ad167.add ((x5_1).toNat * 4)).block, (ad167.add ((x5_1).toNat * 4)).off + 2, none⟩ = some (.int .i64 ((rd_T48 l0 x5_1).f1.f1)) ∧ w'.cell? ⟨(ad167.add ((x5_1).toNat * 4)).block, (ad167.add ((x5_1).toNat * 4)).off + 3, none⟩ = some (.slice A167_3 ((rd_T48 l0 x5_1).f2).length c167_3) ∧ w'.cell? (ad168.add ((x5_1).toNat * 4)) = some (.slice A168_0 ((rd_T48 l1 x5_1).f0).length c168_0) ∧ w'.cell? ⟨(ad168.add ((x5_1).toNat * 4)).block, (ad168.add ((x5_1).toNat * 4)).off + 1, none⟩ = some (.int .i64 ((rd_T48 l1 x5_1).f1.f0)) ∧ w'.cell? ⟨(ad168.add ((x5_1).toNat * 4)).block, (ad168.add ((x5_1).toNat * 4)).off + 2, none⟩ = some (.int .i64 ((rd_T48 l1 x5_1).f1.f1)) ∧ w'.cell? ⟨(ad168.add ((x5_1).toNat * 4)).block, (ad168.add ((x5_1).toNat * 4)).off + 3, none⟩ = some (.slice A168_3 ((rd_T48 l1 x5_1).f2).length c168_3)) (ds := []) #[false, false, false, false, false, false, false, false, false, false, false, false, false, false, false, false, false, false, false, false, false, false, false, false, false, false, false, false, false, false, false, false, false, false, false, false, false, false, false, false] (by kernel_rfl) rfl rfl ⟨((HB.out.cell (World.block_lt_of_cell? w _ hw167_0)).trans hw167_0), ((HB.out.cell (World.block_lt_of_cell? w _ hw167_1)).trans hw167_1), ((HB.out.cell (World.block_lt_of_cell? w _ hw167_2)).trans hw167_2), ((HB.out.cell (World.block_lt_of_cell? w _ hw167_3)).trans hw167_3), ((HB.out.cell (World.block_lt_of_cell? w _ hw168_0)).trans hw168_0), ((HB.out.cell (World.block_lt_of_cell? w _ hw168_1)).trans hw168_1), ((HB.out.cell (World.block_lt_of_cell? w _ hw168_2)).trans hw168_2), ((HB.out.cell (World.block_lt_of_cell? w _ hw168_3)).trans hw168_3), ((HB.out.cell (World.block_lt_of_cell? w _ hw169_0)).trans hw169_0), ((HB.out.cell (World.block_lt_of_cell? w _ hw169_1)).trans hw169_1), ((HB.out.cell (World.block_lt_of_cell? w _ hw169_2)).trans hw169_2), ((HB.out.cell (World.block_lt_of_cell? w _ hw169_3)).trans hw169_3), ((HB.out.cell (World.block_lt_of_cell? w _ hw170_0)).trans hw170_0), ((HB.out.cell (World.block_lt_of_cell? w _ hw170_1)).trans hw170_1), ((HB.out.cell (World.block_lt_of_cell? w _ hw170_2)).trans hw170_2), ((HB.out.cell (World.block_lt_of_cell? w _ hw170_3)).trans hw170_3), ((HB.out.cell (World.block_lt_of_cell? w _ hw171_0)).trans hw171_0), ((HB.out.cell (World.block_lt_of_cell? w _ hw171_1)).trans hw171_1), ((HB.out.cell (World.block_lt_of_cell? w _ hw171_2)).trans hw171_2), ((HB.out.cell (World.block_lt_of_cell? w _ hw171_3)).trans hw171_3), ((HB.out.cell (World.block_lt_of_cell? w _ hw172_0)).trans hw172_0), ((HB.out.cell (World.block_lt_of_cell? w _ hw172_1)).trans hw172_1), ((HB.out.cell (World.block_lt_of_cell? w _ hw172_2)).trans hw172_2), ((HB.out.cell (World.block_lt_of_cell? w _ hw172_3)).trans hw172_3)⟩ (fun hHeld => ?_); refine with_tabW sennitref21_Same.tab6 sennitref21_Same.bits6 (fun HT_ HW_ => ?_)
                    generalize wr.drew = w12 at HB HR167_0 HR167_3 HR168_0 HR168_3 HR169_0 HR169_3 HR170_0 HR170_3 HR171_0 HR171_3 HR172_0 HR172_3 hx167_0 hx167_1 hx167_2 hx167_3 hx168_0 hx168_1 hx168_2 hx168_3 hx169_0 hx169_1 hx169_2 hx169_3 hx170_0 hx170_1 hx170_2 hx170_3 hx171_0 hx171_1 hx171_2 hx171_3 hx172_0 hx172_1 hx172_2 hx172_3 hHeld ⊢
                    refine pure_ (i := 0) (N := some 18) (v := ?_) (a' := ?_) #[true, false, false, false, false, false, false, false, false, false, false, false, false, false, false, false, false, false, false, false, false, false, false, false, false, false, false, false, false, false, false, false, false, false, false, false, false, false, false, false] rfl rfl (any_of HT_.out (by kernel_rfl)) (fun _ _ _ h => h) (Or.inl ⟨by rfl, ?_⟩) ?_ ?_
                    rotate_left
                    · intro w'
                      go_simp
                      with_reducible rfl
                    rotate_left
                    · simp only [Act.put, List.setIfInBounds_toArray, List.set_cons_zero, List.set_cons_succ, i64_w, i32_w]
                      rfl
                    refine pure_ (i := 1) (N := some 19) (v := ?_) (a' := ?_) #[true, true, false, false, false, false, false, false, false, false, false, false, false, false, false, false, false, false, false, false, false, false, false, false, false, false, false, false, false, false, false, false, false, false, false, false, false, false, false, false] rfl rfl (any_of HT_.out (by kernel_rfl)) (fun _ _ _ h => h) (Or.inl ⟨by rfl, ?_⟩) ?_ ?_
                    rotate_left
                    · intro w'
                      go_simp
                      with_reducible rfl
                    rotate_left
                    · simp only [Act.put, List.setIfInBounds_toArray, List.set_cons_zero, List.set_cons_succ, i64_w, i32_w]
                      rfl
                    refine pure_ (i := 2) (N := some 20) (v := ?_) (a' := ?_) #[true, true, true, false, false, false, false, false, false, false, false, false, false, false, false, false, false, false, false, false, false, false, false, false, false, false, false, false, false, false, false, false, false, false, false, false, false, false, false, false] rfl rfl (any_of HT_.out (by kernel_rfl)) (fun _ _ _ h => h) (Or.inl ⟨by rfl, ?_⟩) ?_ ?_
                    rotate_left
                    · intro w'
                      go_simp
                      with_reducible rfl
                    rotate_left
                    · simp only [Act.put, List.setIfInBounds_toArray, List.set_cons_zero, List.set_cons_succ, i64_w, i32_w]
                      rfl
                    refine pure_ (i := 3) (N := some 21) (v := ?_) (a' := ?_) #[true, true, true, true, false, false, false, false, false, false, false, false, false, false, false, false, false, false, false, false, false, false, false, false, false, false, false, false, false, false, false, false, false, false, false, false, false, false, false, false] rfl rfl (any_of HT_.out (by kernel_rfl)) (fun _ _ _ h => h) (Or.inl ⟨by rfl, ?_⟩) ?_ ?_
                    rotate_left
                    · intro w'
                      go_simp
                      with_reducible rfl
                    rotate_left
                    · simp only [Act.put, List.setIfInBounds_toArray, List.set_cons_zero, List.set_cons_succ, i64_w, i32_w]
                      rfl
                    refine pure_ (i := 5) (N := some 23) (v := ?_) (a' := ?_) #[true, true, true, true, false, true, false, false, false, false, false, false, false, false, false, false, false, false, false, false, false, false, false, false, false, false, false, false, false, false, false, false, false, false, false, false, false, false, false, false] rfl rfl (any_of HT_.out (by kernel_rfl)) (fun _ _ _ h => h) (Or.inl ⟨by rfl, ?_⟩) ?_ ?_
                    rotate_left
                    · intro w'
                      go_simp
                      with_reducible rfl
                    rotate_left
                    · simp only [Act.put, List.setIfInBounds_toArray, List.set_cons_zero, List.set_cons_succ, i64_w, i32_w]
                      rfl
                    refine pure_ (i := 6) (N := some 24) (v := ?_) (a' := ?_) #[true, true, true, true, false, true, true, false, false, false, false, false, false, false, false, false, false, false, false, false, false, false, false, false, false, false, false, false, false, false, false, false, false, false, false, false, false, false, false, false] rfl rfl (any_of HT_.out (by kernel_rfl)) (fun _ _ _ h => h) (Or.inl ⟨by rfl, ?_⟩) ?_ ?_
                    rotate_left
                    · intro w'
                      go_simp
                      with_reducible rfl
                    rotate_left
                    · simp only [Act.put, List.setIfInBounds_toArray, List.set_cons_zero, List.set_cons_succ, i64_w, i32_w]
                      rfl
                    refine pure_ (i := 7) (N := some 25) (v := ?_) (a' := ?_) #[true, true, true, true, false, true, true, true, false, false, false, false, false, false, false, false, false, false, false, false, false, false, false, false, false, false, false, false, false, false, false, false, false, false, false, false, false, false, false, false] rfl rfl (any_of HT_.out (by kernel_rfl)) (fun _ _ _ h => h) (Or.inl ⟨by rfl, ?_⟩) ?_ ?_
                    rotate_left
                    · intro w'
                      go_simp
                      with_reducible rfl
                    rotate_left
                    · simp only [Act.put, List.setIfInBounds_toArray, List.set_cons_zero, List.set_cons_succ, i64_w, i32_w]
                      rfl
                    refine pure_ (i := 8) (N := some 26) (v := ?_) (a' := ?_) #[true, true, true, true, false, true, true, true, true, false, false, false, false, false, false, false, false, false, false, false, false, false, false, false, false, false, false, false, false, false, false, false, false, false, false, false, false, false, false, false] rfl rfl (any_of HT_.out (by kernel_rfl)) (fun _ _ _ h => h) (Or.inl ⟨by rfl, ?_⟩) ?_ ?_
                    rotate_left
                    · intro w'
                      go_simp
                      with_reducible rfl
                    rotate_left
                    · simp only [Act.put, List.setIfInBounds_toArray, List.set_cons_zero, List.set_cons_succ, i64_w, i32_w]
                      rfl
                    refine take_ (i := 4) (N := some 22) (v := ?_) (a' := ?_) #[true, true, true, true, true, true, true, true, true, false, false, false, false, false, false, false, false, false, false, false, false, false, false, false, false, false, false, false, false, false, false, false, false, false, false, false, false, false, false, false] rfl rfl (take_ofW HT_.out HW_.out (by kernel_rfl)) (fun _ _ _ h => h) (Or.inl ⟨by rfl, ?_⟩) hHeld ?_ ?_
                    rotate_left
                    · rintro w' ⟨s0, s1, s2, s3, s4, s5, s6, s7, s8, s9, s10, s11, s12, s13, s14, s15, s16, s17, s18, s19, s20, s21, s22, s23⟩
                      go_simp
                      with_reducible rfl
                    rotate_left
                    · simp only [Act.put, List.setIfInBounds_toArray, List.set_cons_zero, List.set_cons_succ, i64_w, i32_w]
                      rfl
                    refine take_ (i := 9) (N := some 27) (v := ?_) (a' := ?_) #[true, true, true, true, true, true, true, true, true, true, false, false, false, false, false, false, false, false, false, false, false, false, false, false, false, false, false, false, false, false, false, false, false, false, false, false, false, false, false, false] rfl rfl (take_ofW HT_.out HW_.out (by kernel_rfl)) (fun _ _ _ h => h) (Or.inl ⟨by rfl, ?_⟩) hHeld ?_ ?_
                    rotate_left
                    · rintro w' ⟨s0, s1, s2, s3, s4, s5, s6, s7, s8, s9, s10, s11, s12, s13, s14, s15, s16, s17, s18, s19, s20, s21, s22, s23⟩
                      go_simp
                      with_reducible rfl
                    rotate_left
                    · simp only [Act.put, List.setIfInBounds_toArray, List.set_cons_zero, List.set_cons_succ, i64_w, i32_w]
                      rfl
                    refine pure_ (i := 10) (N := some 28) (v := ?_) (a' := ?_) #[true, true, true, true, true, true, true, true, true, true, true, false, false, false, false, false, false, false, false, false, false, false, false, false, false, false, false, false, false, false, false, false, false, false, false, false, false, false, false, false] rfl rfl (any_of HT_.out (by kernel_rfl)) (fun _ _ _ h => h) (Or.inl ⟨by rfl, ?_⟩) ?_ ?_
                    rotate_left
                    · intro w'
                      go_simp
                      with_reducible rfl
                    rotate_left
                    · simp only [Act.put, List.setIfInBounds_toArray, List.set_cons_zero, List.set_cons_succ, i64_w, i32_w]
                      rfl
                    refine pure_ (i := 11) (N := some 29) (v := ?_) (a' := ?_) #[true, true, true, true, true, true, true, true, true, true, true, true, false, false, false, false, false, false, false, false, false, false, false, false, false, false, false, false, false, false, false, false, false, false, false, false, false, false, false, false] rfl rfl (any_of HT_.out (by kernel_rfl)) (fun _ _ _ h => h) (Or.inl ⟨by rfl, ?_⟩) ?_ ?_
                    rotate_left
                    · intro w'
                      go_simp
                      with_reducible rfl
                    rotate_left
                    · simp only [Act.put, List.setIfInBounds_toArray, List.set_cons_zero, List.set_cons_succ, i64_w, i32_w]
                      rfl
                    refine pure_ (i := 12) (N := some 30) (v := ?_) (a' := ?_) #[true, true, true, true, true, true, true, true, true, true, true, true, true, false, false, false, false, false, false, false, false, false, false, false, false, false, false, false, false, false, false, false, false, false, false, false, false, false, false, false] rfl rfl (any_of HT_.out (by kernel_rfl)) (fun _ _ _ h => h) (Or.inl ⟨by rfl, ?_⟩) ?_ ?_
                    rotate_left
                    · intro w'
                      go_simp
                      with_reducible rfl
                    rotate_left
                    · simp only [Act.put, List.setIfInBounds_toArray, List.set_cons_zero, List.set_cons_succ, i64_w, i32_w]
                      rfl
                    refine pure_ (i := 13) (N := some 31) (v := ?_) (a' := ?_) #[true, true, true, true, true, true, true, true, true, true, true, true, true, true, false, false, false, false, false, false, false, false, false, false, false, false, false, false, false, false, false, false, false, false, false, false, false, false, false, false] rfl rfl (any_of HT_.out (by kernel_rfl)) (fun _ _ _ h => h) (Or.inl ⟨by rfl, ?_⟩) ?_ ?_
                    rotate_left
                    · intro w'
                      go_simp
                      with_reducible rfl
                    rotate_left
                    · simp only [Act.put, List.setIfInBounds_toArray, List.set_cons_zero, List.set_cons_succ, i64_w, i32_w]
                      rfl
                    refine pure_ (i := 14) (N := some 32) (v := ?_) (a' := ?_) #[true, true, true, true, true, true, true, true, true, true, true, true, true, true, true, false, false, false, false, false, false, false, false, false, false, false, false, false, false, false, false, false, false, false, false, false, false, false, false, false] rfl rfl (any_of HT_.out (by kernel_rfl)) (fun _ _ _ h => h) (Or.inl ⟨by rfl, ?_⟩) ?_ ?_
                    rotate_left
                    · intro w'
                      go_simp
                      with_reducible rfl
                    rotate_left
                    · simp only [Act.put, List.setIfInBounds_toArray, List.set_cons_zero, List.set_cons_succ, i64_w, i32_w]
                      rfl
                    refine pure_ (i := 15) (N := some 33) (v := ?_) (a' := ?_) #[true, true, true, true, true, true, true, true, true, true, true, true, true, true, true, true, false, false, false, false, false, false, false, false, false, false, false, false, false, false, false, false, false, false, false, false, false, false, false, false] rfl rfl (any_of HT_.out (by kernel_rfl)) (fun _ _ _ h => h) (Or.inl ⟨by rfl, ?_⟩) ?_ ?_
                    rotate_left
                    · intro w'
                      go_simp
                      with_reducible rfl
                    rotate_left
                    · simp only [Act.put, List.setIfInBounds_toArray, List.set_cons_zero, List.set_cons_succ, i64_w, i32_w]
                      rfl
                    refine pure_ (i := 18) (N := some 36) (v := ?_) (a' := ?_) #[true, true, true, true, true, true, true, true, true, true, true, true, true, true, true, true, false, false, true, false, false, false, false, false, false, false, false, false, false, false, false, false, false, false, false, false, false, false, false, false] rfl rfl (any_of HT_.out (by kernel_rfl)) (fun _ _ _ h => h) (Or.inl ⟨by rfl, ?_⟩) ?_ ?_
                    rotate_left
                    · intro w'
                      go_simp
                      with_reducible rfl
                    rotate_left
                    · simp only [Act.put, List.setIfInBounds_toArray, List.set_cons_zero, List.set_cons_succ, i64_w, i32_w]
                      rfl
                    refine pure_ (i := 19) (N := some 37) (v := ?_) (a' := ?_) #[true, true, true, true, true, true, true, true, true, true, true, true, true, true, true, true, false, false, true, true, false, false, false, false, false, false, false, false, false, false, false, false, false, false, false, false, false, false, false, false] rfl rfl (any_of HT_.out (by kernel_rfl)) (fun _ _ _ h => h) (Or.inl ⟨by rfl, ?_⟩) ?_ ?_
                    rotate_left
                    · intro w'
                      go_simp
                      with_reducible rfl
                    rotate_left
                    · simp only [Act.put, List.setIfInBounds_toArray, List.set_cons_zero, List.set_cons_succ, i64_w, i32_w]
                      rfl
                    refine pure_ (i := 20) (N := some 38) (v := ?_) (a' := ?_) #[true, true, true, true, true, true, true, true, true, true, true, true, true, true, true, true, false, false, true, true, true, false, false, false, false, false, false, false, false, false, false, false, false, false, false, false, false, false, false, false] rfl rfl (any_of HT_.out (by kernel_rfl)) (fun _ _ _ h => h) (Or.inl ⟨by rfl, ?_⟩) ?_ ?_
                    rotate_left
                    · intro w'
                      go_simp
                      with_reducible rfl
                    rotate_left
                    · simp only [Act.put, List.setIfInBounds_toArray, List.set_cons_zero, List.set_cons_succ, i64_w, i32_w]
                      rfl
                    refine pure_ (i := 21) (N := some 39) (v := ?_) (a' := ?_) #[true, true, true, true, true, true, true, true, true, true, true, true, true, true, true, true, false, false, true, true, true, true, false, false, false, false, false, false, false, false, false, false, false, false, false, false, false, false, false, false] rfl rfl (any_of HT_.out (by kernel_rfl)) (fun _ _ _ h => h) (Or.inl ⟨by rfl, ?_⟩) ?_ ?_
                    rotate_left
                    · intro w'
                      go_simp
                      with_reducible rfl
                    rotate_left
                    · simp only [Act.put, List.setIfInBounds_toArray, List.set_cons_zero, List.set_cons_succ, i64_w, i32_w]
                      rfl
                    refine take_ (i := 16) (N := some 34) (v := ?_) (a' := ?_) #[true, true, true, true, true, true, true, true, true, true, true, true, true, true, true, true, true, false, true, true, true, true, false, false, false, false, false, false, false, false, false, false, false, false, false, false, false, false, false, false] rfl rfl (take_ofW HT_.out HW_.out (by kernel_rfl)) (fun _ _ _ h => h) (Or.inl ⟨by rfl, ?_⟩) hHeld ?_ ?_
                    rotate_left
                    · rintro w' ⟨s0, s1, s2, s3, s4, s5, s6, s7, s8, s9, s10, s11, s12, s13, s14, s15, s16, s17, s18, s19, s20, s21, s22, s23⟩
                      go_simp
                      with_reducible rfl
                    rotate_left
                    · simp only [Act.put, List.setIfInBounds_toArray, List.set_cons_zero, List.set_cons_succ, i64_w, i32_w]
                      rfl
                    refine pure_ (i := 17) (N := some 35) (v := ?_) (a' := ?_) #[true, true, true, true, true, true, true, true, true, true, true, true, true, true, true, true, true, true, true, true, true, true, false, false, false, false, false, false, false, false, false, false, false, false, false, false, false, false, false, false] rfl rfl (any_of HT_.out (by kernel_rfl)) (fun _ _ _ h => h) (Or.inl ⟨by rfl, ?_⟩) ?_ ?_
                    rotate_left
                    · intro w'
                      go_simp
                      with_reducible rfl
                    rotate_left
                    · simp only [Act.put, List.setIfInBounds_toArray, List.set_cons_zero, List.set_cons_succ, i64_w, i32_w]
                      rfl
                    refine take_ (i := 22) (N := some 40) (v := ?_) (a' := ?_) #[true, true, true, true, true, true, true, true, true, true, true, true, true, true, true, true, true, true, true, true, true, true, true, false, false, false, false, false, false, false, false, false, false, false, false, false, false, false, false, false] rfl rfl (take_ofW HT_.out HW_.out (by kernel_rfl)) (fun _ _ _ h => h) (Or.inl ⟨by rfl, ?_⟩) hHeld ?_ ?_
                    rotate_left
                    · rintro w' ⟨s0, s1, s2, s3, s4, s5, s6, s7, s8, s9, s10, s11, s12, s13, s14, s15, s16, s17, s18, s19, s20, s21, s22, s23⟩
                      go_simp
                      with_reducible rfl
                    rotate_left
                    · simp only [Act.put, List.setIfInBounds_toArray, List.set_cons_zero, List.set_cons_succ, i64_w, i32_w]
                      rfl
                    refine pure_ (i := 23) (N := some 41) (v := ?_) (a' := ?_) #[true, true, true, true, true, true, true, true, true, true, true, true, true, true, true, true, true, true, true, true, true, true, true, true, false, false, false, false, false, false, false, false, false, false, false, false, false, false, false, false] rfl rfl (any_of HT_.out (by kernel_rfl)) (fun _ _ _ h => h) (Or.inl ⟨by rfl, ?_⟩) ?_ ?_
                    rotate_left
                    · intro w'
                      go_simp
                      with_reducible rfl
                    rotate_left
                    · simp only [Act.put, List.setIfInBounds_toArray, List.set_cons_zero, List.set_cons_succ, i64_w, i32_w]
                      rfl
                    refine pure_ (i := 24) (N := some 42) (v := ?_) (a' := ?_) #[true, true, true, true, true, true, true, true, true, true, true, true, true, true, true, true, true, true, true, true, true, true, true, true, true, false, false, false, false, false, false, false, false, false, false, false, false, false, false, false] rfl rfl (any_of HT_.out (by kernel_rfl)) (fun _ _ _ h => h) (Or.inl ⟨by rfl, ?_⟩) ?_ ?_
                    rotate_left
                    · intro w'
                      go_simp
                      with_reducible rfl
                    rotate_left
                    · simp only [Act.put, List.setIfInBounds_toArray, List.set_cons_zero, List.set_cons_succ, i64_w, i32_w]
                      rfl
                    refine pure_ (i := 25) (N := some 43) (v := ?_) (a' := ?_) #[true, true, true, true, true, true, true, true, true, true, true, true, true, true, true, true, true, true, true, true, true, true, true, true, true, true, false, false, false, false, false, false, false, false, false, false, false, false, false, false] rfl rfl (any_of HT_.out (by kernel_rfl)) (fun _ _ _ h => h) (Or.inl ⟨by rfl, ?_⟩) ?_ ?_
                    rotate_left
                    · intro w'
                      go_simp
                      with_reducible rfl
                    rotate_left
                    · simp only [Act.put, List.setIfInBounds_toArray, List.set_cons_zero, List.set_cons_succ, i64_w, i32_w]
                      rfl
                    refine pure_ (i := 26) (N := some 44) (v := ?_) (a' := ?_) #[true, true, true, true, true, true, true, true, true, true, true, true, true, true, true, true, true, true, true, true, true, true, true, true, true, true, true, false, false, false, false, false, false, false, false, false, false, false, false, false] rfl rfl (any_of HT_.out (by kernel_rfl)) (fun _ _ _ h => h) (Or.inl ⟨by rfl, ?_⟩) ?_ ?_
                    rotate_left
                    · intro w'
                      go_simp
                      with_reducible rfl
                    rotate_left
                    · simp only [Act.put, List.setIfInBounds_toArray, List.set_cons_zero, List.set_cons_succ, i64_w, i32_w]
                      rfl
                    refine pure_ (i := 27) (N := some 45) (v := ?_) (a' := ?_) #[true, true, true, true, true, true, true, true, true, true, true, true, true, true, true, true, true, true, true, true, true, true, true, true, true, true, true, true, false, false, false, false, false, false, false, false, false, false, false, false] rfl rfl (any_of HT_.out (by kernel_rfl)) (fun _ _ _ h => h) (Or.inl ⟨by rfl, ?_⟩) ?_ ?_
                    rotate_left
                    · intro w'
                      go_simp
                      with_reducible rfl
                    rotate_left
                    · simp only [Act.put, List.setIfInBounds_toArray, List.set_cons_zero, List.set_cons_succ, i64_w, i32_w]
                      rfl
                    refine pure_ (i := 28) (N := some 46) (v := ?_) (a' := ?_) #[true, true, true, true, true, true, true, true, true, true, true, true, true, true, true, true, true, true, true, true, true, true, true, true, true, true, true, true, true, false, false, false, false, false, false, false, false, false, false, false] rfl rfl (any_of HT_.out (by kernel_rfl)) (fun _ _ _ h => h) (Or.inl ⟨by rfl, ?_⟩) ?_ ?_
                    rotate_left
                    · intro w'
                      go_simp
                      with_reducible rfl
                    rotate_left
                    · simp only [Act.put, List.setIfInBounds_toArray, List.set_cons_zero, List.set_cons_succ, i64_w, i32_w]
                      rfl
                    refine pure_ (i := 29) (N := some 47) (v := ?_) (a' := ?_) #[true, true, true, true, true, true, true, true, true, true, true, true, true, true, true, true, true, true, true, true, true, true, true, true, true, true, true, true, true, true, false, false, false, false, false, false, false, false, false, false] rfl rfl (any_of HT_.out (by kernel_rfl)) (fun _ _ _ h => h) (Or.inl ⟨by rfl, ?_⟩) ?_ ?_
                    rotate_left
                    · intro w'
                      go_simp
                      with_reducible rfl
                    rotate_left
                    · simp only [Act.put, List.setIfInBounds_toArray, List.set_cons_zero, List.set_cons_succ, i64_w, i32_w]
                      rfl
                    refine pure_ (i := 30) (N := some 48) (v := ?_) (a' := ?_) #[true, true, true, true, true, true, true, true, true, true, true, true, true, true, true, true, true, true, true, true, true, true, true, true, true, true, true, true, true, true, true, false, false, false, false, false, false, false, false, false] rfl rfl (any_of HT_.out (by kernel_rfl)) (fun _ _ _ h => h) (Or.inl ⟨by rfl, ?_⟩) ?_ ?_
                    rotate_left
                    · intro w'
                      go_simp
                      with_reducible rfl
                    rotate_left
                    · simp only [Act.put, List.setIfInBounds_toArray, List.set_cons_zero, List.set_cons_succ, i64_w, i32_w]
                      rfl
                    refine pure_ (i := 32) (N := some 50) (v := ?_) (a' := ?_) #[true, true, true, true, true, true, true, true, true, true, true, true, true, true, true, true, true, true, true, true, true, true, true, true, true, true, true, true, true, true, true, false, true, false, false, false, false, false, false, false] rfl rfl (any_of HT_.out (by kernel_rfl)) (fun _ _ _ h => h) (Or.inl ⟨by rfl, ?_⟩) ?_ ?_
                    rotate_left
                    · intro w'
                      go_simp
                      with_reducible rfl
                    rotate_left
                    · simp only [Act.put, List.setIfInBounds_toArray, List.set_cons_zero, List.set_cons_succ, i64_w, i32_w]
                      rfl
                    refine pure_ (i := 33) (N := some 51) (v := ?_) (a' := ?_) #[true, true, true, true, true, true, true, true, true, true, true, true, true, true, true, true, true, true, true, true, true, true, true, true, true, true, true, true, true, true, true, false, true, true, false, false, false, false, false, false] rfl rfl (any_of HT_.out (by kernel_rfl)) (fun _ _ _ h => h) (Or.inl ⟨by rfl, ?_⟩) ?_ ?_
                    rotate_left
                    · intro w'
                      go_simp
                      with_reducible rfl
                    rotate_left
                    · simp only [Act.put, List.setIfInBounds_toArray, List.set_cons_zero, List.set_cons_succ, i64_w, i32_w]
                      rfl
                    refine pure_ (i := 34) (N := some 52) (v := ?_) (a' := ?_) #[true, true, true, true, true, true, true, true, true, true, true, true, true, true, true, true, true, true, true, true, true, true, true, true, true, true, true, true, true, true, true, false, true, true, true, false, false, false, false, false] rfl rfl (any_of HT_.out (by kernel_rfl)) (fun _ _ _ h => h) (Or.inl ⟨by rfl, ?_⟩) ?_ ?_
                    rotate_left
                    · intro w'
                      go_simp
                      with_reducible rfl
                    rotate_left
                    · simp only [Act.put, List.setIfInBounds_toArray, List.set_cons_zero, List.set_cons_succ, i64_w, i32_w]
                      rfl
                    refine pure_ (i := 35) (N := some 53) (v := ?_) (a' := ?_) #[true, true, true, true, true, true, true, true, true, true, true, true, true, true, true, true, true, true, true, true, true, true, true, true, true, true, true, true, true, true, true, false, true, true, true, true, false, false, false, false] rfl rfl (any_of HT_.out (by kernel_rfl)) (fun _ _ _ h => h) (Or.inl ⟨by rfl, ?_⟩) ?_ ?_
                    rotate_left
                    · intro w'
                      go_simp
                      with_reducible rfl
                    rotate_left
                    · simp only [Act.put, List.setIfInBounds_toArray, List.set_cons_zero, List.set_cons_succ, i64_w, i32_w]
                      rfl
                    refine take_ (i := 31) (N := some 49) (v := ?_) (a' := ?_) #[true, true, true, true, true, true, true, true, true, true, true, true, true, true, true, true, true, true, true, true, true, true, true, true, true, true, true, true, true, true, true, true, true, true, true, true, false, false, false, false] rfl rfl (take_ofW HT_.out HW_.out (by kernel_rfl)) (fun _ _ _ h => h) (Or.inl ⟨by rfl, ?_⟩) hHeld ?_ ?_
                    rotate_left
                    · rintro w' ⟨s0, s1, s2, s3, s4, s5, s6, s7, s8, s9, s10, s11, s12, s13, s14, s15, s16, s17, s18, s19, s20, s21, s22, s23⟩
                      go_simp
                      with_reducible rfl
                    rotate_left
                    · simp only [Act.put, List.setIfInBounds_toArray, List.set_cons_zero, List.set_cons_succ, i64_w, i32_w]
                      rfl
                    refine take_ (i := 36) (N := some 54) (v := ?_) (a' := ?_) #[true, true, true, true, true, true, true, true, true, true, true, true, true, true, true, true, true, true, true, true, true, true, true, true, true, true, true, true, true, true, true, true, true, true, true, true, true, false, false, false] rfl rfl (take_ofW HT_.out HW_.out (by kernel_rfl)) (fun _ _ _ h => h) (Or.inl ⟨by rfl, ?_⟩) hHeld ?_ ?_
                    rotate_left
                    · rintro w' ⟨s0, s1, s2, s3, s4, s5, s6, s7, s8, s9, s10, s11, s12, s13, s14, s15, s16, s17, s18, s19, s20, s21, s22, s23⟩
                      go_simp
                      with_reducible rfl
                    rotate_left
                    · simp only [Act.put, List.setIfInBounds_toArray, List.set_cons_zero, List.set_cons_succ, i64_w, i32_w]
                      rfl
                    refine one_ (i := 37) (N := some 55) #[true, true, true, true, true, true, true, true, true, true, true, true, true, true, true, true, true, true, true, true, true, true, true, true, true, true, true, true, true, true, true, true, true, true, true, true, true, true, false, false] rfl rfl (one_of HT_.out (by kernel_rfl)) (by decide) (fun K hK => ?_)
                    refine goes_ Tryd.func37 (by kernel_rfl) rfl #[.slice A167_3 ((rd_T48 l0 x5_1).f2).length c167_3, .slice A168_3 ((rd_T48 l1 x5_1).f2).length c168_3] (by rfl) rfl rfl (by (try simp only [List.map_toArray, List.map_cons, List.map_nil]); first | done | rfl | (simp only [List.length_drop, List.length_take]; rfl)) ?_
                    with_reducible refine (sennitref19_Same.calls k1 _ _ ((rd_T48 l0 x5_1).f2) _ _ ((rd_T48 l1 x5_1).f2) t173 _ ?side1 ?side2 ?side3 ?side4 A11.out).mono ?_
                    (case side1 => repeat (first | exact (Kd.C_below HR171_3.out HB.out) | (with_reducible refine Kd.C_alloc ?_ _) | (with_reducible refine Kd.C_drewN ?_ _) | (with_reducible refine Kd.C_drew ?_)))
                    (case side2 => exact HC171_3.out)
                    (case side3 => repeat (first | exact (Kd.C_below HR172_3.out HB.out) | (with_reducible refine Kd.C_alloc ?_ _) | (with_reducible refine Kd.C_drewN ?_ _) | (with_reducible refine Kd.C_drew ?_)))
                    (case side4 => exact HC172_3.out)
                    rintro e w' ⟨rfl, ⟨nd, rfl⟩⟩
                    refine ⟨_, rfl, ?_⟩
                    refine hK.out _ _ ⟨((HB.out.cell (World.block_lt_of_cell? w _ hw167_0)).trans hw167_0), ((HB.out.cell (World.block_lt_of_cell? w _ hw167_1)).trans hw167_1), ((HB.out.cell (World.block_lt_of_cell? w _ hw167_2)).trans hw167_2), ((HB.out.cell (World.block_lt_of_cell? w _ hw167_3)).trans hw167_3), ((HB.out.cell (World.block_lt_of_cell? w _ hw168_0)).trans hw168_0), ((HB.out.cell (World.block_lt_of_cell? w _ hw168_1)).trans hw168_1), ((HB.out.cell (World.block_lt_of_cell? w _ hw168_2)).trans hw168_2), ((HB.out.cell (World.block_lt_of_cell? w _ hw168_3)).trans hw168_3), ((HB.out.cell (World.block_lt_of_cell? w _ hw169_0)).trans hw169_0), ((HB.out.cell (World.block_lt_of_cell? w _ hw169_1)).trans hw169_1), ((HB.out.cell (World.block_lt_of_cell? w _ hw169_2)).trans hw169_2), ((HB.out.cell (World.block_lt_of_cell? w _ hw169_3)).trans hw169_3), ((HB.out.cell (World.block_lt_of_cell? w _ hw170_0)).trans hw170_0), ((HB.out.cell (World.block_lt_of_cell? w _ hw170_1)).trans hw170_1), ((HB.out.cell (World.block_lt_of_cell? w _ hw170_2)).trans hw170_2), ((HB.out.cell (World.block_lt_of_cell? w _ hw170_3)).trans hw170_3), ((HB.out.cell (World.block_lt_of_cell? w _ hw171_0)).trans hw171_0), ((HB.out.cell (World.block_lt_of_cell? w _ hw171_1)).trans hw171_1), ((HB.out.cell (World.block_lt_of_cell? w _ hw171_2)).trans hw171_2), ((HB.out.cell (World.block_lt_of_cell? w _ hw171_3)).trans hw171_3), ((HB.out.cell (World.block_lt_of_cell? w _ hw172_0)).trans hw172_0), ((HB.out.cell (World.block_lt_of_cell? w _ hw172_1)).trans hw172_1), ((HB.out.cell (World.block_lt_of_cell? w _ hw172_2)).trans hw172_2), ((HB.out.cell (World.block_lt_of_cell? w _ hw172_3)).trans hw172_3)⟩ (fun hHeld => ?_)
                    clear hK K
                    refine norm_ (a' := ?_) ?_ ?_
                    rotate_left
                    · show Act.put _ (some 55) _ = _
                      simp only [Act.put, List.setIfInBounds_toArray, List.set_cons_zero, List.set_cons_succ, i64_w, i32_w]
                      rfl
                    refine pure_ (i := 38) (N := some 56) (v := ?_) (a' := ?_) #[true, true, true, true, true, true, true, true, true, true, true, true, true, true, true, true, true, true, true, true, true, true, true, true, true, true, true, true, true, true, true, true, true, true, true, true, true, true, true, false] rfl rfl (any_of HT_.out (by kernel_rfl)) (fun _ _ _ h => h) (Or.inl ⟨by rfl, ?_⟩) ?_ ?_
                    rotate_left
                    · intro w'
                      go_simp
                      with_reducible rfl
                    rotate_left
                    · simp only [Act.put, List.setIfInBounds_toArray, List.set_cons_zero, List.set_cons_succ, i64_w, i32_w]
                      rfl
                    refine pure_ (i := 39) (N := some 57) (v := ?_) (a' := ?_) #[true, true, true, true, true, true, true, true, true, true, true, true, true, true, true, true, true, true, true, true, true, true, true, true, true, true, true, true, true, true, true, true, true, true, true, true, true, true, true, true] rfl rfl (any_of HT_.out (by kernel_rfl)) (fun _ _ _ h => h) (Or.inl ⟨by rfl, ?_⟩) ?_ ?_
                    rotate_left
                    · intro w'
                      go_simp
                      with_reducible rfl
                    rotate_left
                    · simp only [Act.put, List.setIfInBounds_toArray, List.set_cons_zero, List.set_cons_succ, i64_w, i32_w]
                      rfl
                    refine done_ (done_of HT_.out (by kernel_rfl)) ?_
                    try go_wp2
                    go_meet
                    case rel => exact ⟨_, (!t173), (by first | rfl | (simp; done) | (simp [*]; done)), H', ⟨by have := HK1.out; first | omega | exact Nat.le_refl _⟩, ⟨by repeat (first | (with_reducible first | exact HB.out | apply below_alloc | apply pw_below_drewN | apply below_drew1) | exact HB.out)⟩⟩
                  · rw [if_neg c10] at H
                    have c10b0 : ((((rd_T48 l0 x5_1).f0).length : Int) == (((rd_T48 l1 x5_1).f0).length : Int)) = false := beq_eq_false_iff_ne.mpr c10
                    have c10b1 : ((((rd_T48 l0 x5_1).f0).length : Int) != (((rd_T48 l1 x5_1).f0).length : Int)) = true := bne_iff_ne.mpr c10
                    have c10b2 : (((rd_T48 l0 x5_1).f0).length == ((rd_T48 l1 x5_1).f0).length) = false := by first | simpa using c10 | (simp at c10 ⊢; omega)
                    have H' := Aside0.mk H
                    clear H
                    try go_wp2
                    have n0_ := Aside0.mk (below_drew1 HB.out)
                    clear HB
                    have HB := n0_
                    clear n0_
                    have p167 : 0 ≤ (x5_1 : Int) := of_decide_eq_true (by first | (with_reducible assumption) | assumption)
                    have q167 : x5_1 < (l0.length : Int) := of_decide_eq_true (by first | (with_reducible assumption) | assumption)
                    obtain ⟨ad167, A167_0, c167_0, A167_3, c167_3, e167, hx167_0, hx167_1, hx167_2, hx167_3, hl167_0, hi167_0, hl167_3, hi167_3⟩ := at_T48 HR0.out x5_1 p167 q167
                    have hw167_3 := hx167_3
                    have hw167_2 := hx167_2
                    have hw167_1 := hx167_1
                    have hw167_0 := hx167_0
                    cases e167
                    replace hx167_0 := (HB.out.cell (World.block_lt_of_cell? w _ hx167_0)).trans hx167_0
                    replace hx167_1 := (HB.out.cell (World.block_lt_of_cell? w _ hx167_1)).trans hx167_1
                    replace hx167_2 := (HB.out.cell (World.block_lt_of_cell? w _ hx167_2)).trans hx167_2
                    replace hx167_3 := (HB.out.cell (World.block_lt_of_cell? w _ hx167_3)).trans hx167_3
                    have HR167_0 := Aside0.mk hi167_0
                    have HC167_0 := Aside0.mk hl167_0
                    clear hi167_0 hl167_0
                    have HR167_3 := Aside0.mk hi167_3
                    have HC167_3 := Aside0.mk hl167_3
                    clear hi167_3 hl167_3
                    replace p167 := eq_true p167
                    replace q167 := eq_true q167
                    have p168 : 0 ≤ (x5_1 : Int) := of_decide_eq_true (by first | (with_reducible assumption) | assumption)
                    have q168 : x5_1 < (l1.length : Int) := of_decide_eq_true (by first | (with_reducible assumption) | assumption)
                    obtain ⟨ad168, A168_0, c168_0, A168_3, c168_3, e168, hx168_0, hx168_1, hx168_2, hx168_3, hl168_0, hi168_0, hl168_3, hi168_3⟩ := at_T48 HR1.out x5_1 p168 q168
                    have hw168_3 := hx168_3
                    have hw168_2 := hx168_2
                    have hw168_1 := hx168_1
                    have hw168_0 := hx168_0
                    cases e168
                    replace hx168_0 := (HB.out.cell (World.block_lt_of_cell? w _ hx168_0)).trans hx168_0
                    replace hx168_1 := (HB.out.cell (World.block_lt_of_cell? w _ hx168_1)).trans hx168_1
                    replace hx168_2 := (HB.out.cell (World.block_lt_of_cell? w _ hx168_2)).trans hx168_2
                    replace hx168_3 := (HB.out.cell (World.block_lt_of_cell? w _ hx168_3)).trans hx168_3
                    have HR168_0 := Aside0.mk hi168_0
                    have HC168_0 := Aside0.mk hl168_0
                    clear hi168_0 hl168_0
                    have HR168_3 := Aside0.mk hi168_3
                    have HC168_3 := Aside0.mk hl168_3
                    clear hi168_3 hl168_3
                    replace p168 := eq_true p168
                    replace q168 := eq_true q168
                    have p169 : 0 ≤ (x5_1 : Int) := of_decide_eq_true (by first | (with_reducible assumption) | assumption)
                    have q169 : x5_1 < (l0.length : Int) := of_decide_eq_true (by first | (with_reducible assumption) | assumption)
                    obtain ⟨ad169, A169_0, c169_0, A169_3, c169_3, e169, hx169_0, hx169_1, hx169_2, hx169_3, hl169_0, hi169_0, hl169_3, hi169_3⟩ := at_T48 HR0.out x5_1 p169 q169
                    have hw169_3 := hx169_3
                    have hw169_2 := hx169_2
                    have hw169_1 := hx169_1
                    have hw169_0 := hx169_0
                    obtain rfl : ad167 = ad169 := (by injection e169)
                    replace hx169_0 := (HB.out.cell (World.block_lt_of_cell? w _ hx169_0)).trans hx169_0
                    replace hx169_1 := (HB.out.cell (World.block_lt_of_cell? w _ hx169_1)).trans hx169_1
                    replace hx169_2 := (HB.out.cell (World.block_lt_of_cell? w _ hx169_2)).trans hx169_2
                    replace hx169_3 := (HB.out.cell (World.block_lt_of_cell? w _ hx169_3)).trans hx169_3
                    have HR169_0 := Aside0.mk hi169_0
                    have HC169_0 := Aside0.mk hl169_0
                    clear hi169_0 hl169_0
                    have HR169_3 := Aside0.mk hi169_3
                    have HC169_3 := Aside0.mk hl169_3
                    clear hi169_3 hl169_3
                    replace p169 := eq_true p169
                    replace q169 := eq_true q169
                    have ea_ := Option.some.inj (hx167_0.symm.trans hx169_0)
                    injection ea_ with ea_ en_ ec_
                    subst ea_
                    subst ec_
                    clear en_
                    have ea_ := Option.some.inj (hx167_3.symm.trans hx169_3)
                    injection ea_ with ea_ en_ ec_
                    subst ea_
                    subst ec_
                    clear en_
                    have p170 : 0 ≤ (x5_1 : Int) := of_decide_eq_true (by first | (with_reducible assumption) | assumption)
                    have q170 : x5_1 < (l1.length : Int) := of_decide_eq_true (by first | (with_reducible assumption) | assumption)
                    obtain ⟨ad170, A170_0, c170_0, A170_3, c170_3, e170, hx170_0, hx170_1, hx170_2, hx170_3, hl170_0, hi170_0, hl170_3, hi170_3⟩ := at_T48 HR1.out x5_1 p170 q170
                    have hw170_3 := hx170_3
                    have hw170_2 := hx170_2
                    have hw170_1 := hx170_1
                    have hw170_0 := hx170_0
                    obtain rfl : ad168 = ad170 := (by injection e170)
                    replace hx170_0 := (HB.out.cell (World.block_lt_of_cell? w _ hx170_0)).trans hx170_0
                    replace hx170_1 := (HB.out.cell (World.block_lt_of_cell? w _ hx170_1)).trans hx170_1
                    replace hx170_2 := (HB.out.cell (World.block_lt_of_cell? w _ hx170_2)).trans hx170_2
                    replace hx170_3 := (HB.out.cell (World.block_lt_of_cell? w _ hx170_3)).trans hx170_3
                    have HR170_0 := Aside0.mk hi170_0
                    have HC170_0 := Aside0.mk hl170_0
                    clear hi170_0 hl170_0
                    have HR170_3 := Aside0.mk hi170_3
                    have HC170_3 := Aside0.mk hl170_3
                    clear hi170_3 hl170_3
                    replace p170 := eq_true p170
                    replace q170 := eq_true q170
                    have ea_ := Option.some.inj (hx168_0.symm.trans hx170_0)
                    injection ea_ with ea_ en_ ec_
                    subst ea_
                    subst ec_
                    clear en_
                    have ea_ := Option.some.inj (hx168_3.symm.trans hx170_3)
                    injection ea_ with ea_ en_ ec_
                    subst ea_
                    subst ec_
                    clear en_
                    refine start_ (n := 40) (S := fun w' => w'.cell? (ad167.add ((x5_1).toNat * 4)) = some (.slice A167_0 ((rd_T48 l0 x5_1).f0).length c167_0) ∧ w'.cell? ⟨(ad167.add ((x5_1).toNat * 4)).block, (ad167.add ((x5_1).toNat * 4)).off + 1, none⟩ = some (.int .i64 ((rd_T48 l0 x5_1).f1.f0)) ∧ w'.cell? ⟨(ad167.add ((x5_1).toNat * 4)).block, (ad167.add ((x5_1).toNat * 4)).off + 2, none⟩ = some (.int .i64 ((rd_T48 l0 x5_1).f1.f1)) ∧ w'.cell? ⟨(ad167.add ((x5_1).toNat * 4)).block, (ad167.add ((x5_1).toNat * 4)).off + 3, none⟩ = some (.slice A167_3 ((rd_T48 l0 x5_1).f2).length c167_3) ∧ w'.cell? (ad168.add ((x5_1).toNat * 4)) = some (.slice A168_0 ((rd_T48 l1 x5_1).f0).length c168_0) ∧ w'.cell? ⟨(ad168.add ((x5_1).toNat * 4)).block, (ad168.add ((x5_1).toNat * 4)).off + 1, none⟩ = some (.int .i64 ((rd_T48 l1 x5_1).f1.f0)) ∧ w'.cell? ⟨(ad168.add ((x5_1).toNat * 4)).block, (ad168.add ((x5_1).toNat * 4)).off + 2, none⟩ = some (.int .i64 ((rd_T48 l1 x5_1).f1.f1)) ∧ w'.cell? ⟨(ad168.add ((x5_1).toNat * 4)).block, (ad168.add ((x5_1).toNat * 4)).off + 3, none⟩ = some (.slice A168_3 ((rd_T48 l1 x5_1).f2).length c168_3) ∧ w'.cell? (ad167.add ((x5_1).toNat * 4)) = some (.slice A167_0 ((rd_T48 l0 x5_1).f0).length c167_0) ∧ w'.cell? ⟨(ad167.add ((x5_1).toNat * 4)).block, (ad167.add ((x5_1).toNat * 4)).off + 1, none⟩ = some (.int .i64 ((rd_T48 l0 x5_1).f1.f0)) ∧ w'.cell? ⟨(ad167.add ((x5_1).toNat * 4)).block, (ad167.add ((x5_1).toNat * 4)).off + 2, none⟩ = some (.int .i64 ((rd_T48 l0 x5_1).f1.f1)) ∧ w'.cell? ⟨(ad167.add ((x5_1).toNat * 4)).block, (ad167.add ((x5_1).toNat * 4)).off + 3, none⟩ = some (.slice A167_3 ((rd_T48 l0 x5_1).f2).length c167_3) ∧ w'.cell? (ad168.add ((x5_1).toNat * 4)) = some (.slice A168_0 ((rd_T48 l1 x5_1).f0).length c168_0) ∧ w'.cell? ⟨(ad168.add ((x5_1).toNat * 4)).block, (ad168.add ((x5_1).toNat * 4)).off + 1, none⟩ = some (.int .i64 ((rd_T48 l1 x5_1).f1.f0)) ∧ w'.cell? ⟨(ad168.add ((x5_1).toNat * 4)).block, (ad168.add ((x5_1).toNat * 4)).off + 2, none⟩ = some (.int .i64 ((rd_T48 l1 x5_1).f1.f1)) ∧ w'.cell? ⟨(ad168.add ((x5_1).toNat * 4)).block, (ad168.add ((x5_1).toNat * 4)).off + 3, none⟩ = some (.slice A168_3 ((rd_T48 l1 x5_1).f2).length c168_3)) (ds := []) #[false, false, false, false, false, false, false, false, false, false, false, false, false, false, false, false, false, false, false, false, false, false, false, false, false, false, false, false, false, false, false, false, false, false, false, false, false, false, false, false] (by kernel_rfl) rfl rfl ⟨((HB.out.cell (World.block_lt_of_cell? w _ hw167_0)).trans hw167_0), ((HB.out.cell (World.block_lt_of_cell? w _ hw167_1)).trans hw167_1), ((HB.out.cell (World.block_lt_of_cell? w _ hw167_2)).trans hw167_2), ((HB.out.cell (World.block_lt_of_cell? w _ hw167_3)).trans hw167_3), ((HB.out.cell (World.block_lt_of_cell? w _ hw168_0)).trans hw168_0), ((HB.out.cell (World.block_lt_of_cell? w _ hw168_1)).trans hw168_1), ((HB.out.cell (World.block_lt_of_cell? w _ hw168_2)).trans hw168_2), ((HB.out.cell (World.block_lt_of_cell? w _ hw168_3)).trans hw168_3), ((HB.out.cell (World.block_lt_of_cell? w _ hw169_0)).trans hw169_0), ((HB.out.cell (World.block_lt_of_cell? w _ hw169_1)).trans hw169_1), ((HB.out.cell (World.block_lt_of_cell? w _ hw169_2)).trans hw169_2), ((HB.out.cell (World.block_lt_of_cell? w _ hw169_3)).trans hw169_3), ((HB.out.cell (World.block_lt_of_cell? w _ hw170_0)).trans hw170_0), ((HB.out.cell (World.block_lt_of_cell? w _ hw170_1)).trans hw170_1), ((HB.out.cell (World.block_lt_of_cell? w _ hw170_2)).trans hw170_2), ((HB.out.cell (World.block_lt_of_cell? w _ hw170_3)).trans hw170_3)⟩ (fun hHeld => ?_); refine with_tabW sennitref21_Same.tab6 sennitref21_Same.bits6 (fun HT_ HW_ => ?_)
                    generalize wr.drew = w13 at HB HR167_0 HR167_3 HR168_0 HR168_3 HR169_0 HR169_3 HR170_0 HR170_3 hx167_0 hx167_1 hx167_2 hx167_3 hx168_0 hx168_1 hx168_2 hx168_3 hx169_0 hx169_1 hx169_2 hx169_3 hx170_0 hx170_1 hx170_2 hx170_3 hHeld ⊢
                    refine pure_ (i := 0) (N := some 18) (v := ?_) (a' := ?_) #[true, false, false, false, false, false, false, false, false, false, false, false, false, false, false, false, false, false, false, false, false, false, false, false, false, false, false, false, false, false, false, false, false, false, false, false, false, false, false, false] rfl rfl (any_of HT_.out (by kernel_rfl)) (fun _ _ _ h => h) (Or.inl ⟨by rfl, ?_⟩) ?_ ?_
                    rotate_left
                    · intro w'
                      go_simp
                      with_reducible rfl
                    rotate_left
                    · simp only [Act.put, List.setIfInBounds_toArray, List.set_cons_zero, List.set_cons_succ, i64_w, i32_w]
                      rfl
                    refine pure_ (i := 1) (N := some 19) (v := ?_) (a' := ?_) #[true, true, false, false, false, false, false, false, false, false, false, false, false, false, false, false, false, false, false, false, false, false, false, false, false, false, false, false, false, false, false, false, false, false, false, false, false, false, false, false] rfl rfl (any_of HT_.out (by kernel_rfl)) (fun _ _ _ h => h) (Or.inl ⟨by rfl, ?_⟩) ?_ ?_
                    rotate_left
                    · intro w'
                      go_simp
                      with_reducible rfl
                    rotate_left
                    · simp only [Act.put, List.setIfInBounds_toArray, List.set_cons_zero, List.set_cons_succ, i64_w, i32_w]
                      rfl
                    refine pure_ (i := 2) (N := some 20) (v := ?_) (a' := ?_) #[true, true, true, false, false, false, false, false, false, false, false, false, false, false, false, false, false, false, false, false, false, false, false, false, false, false, false, false, false, false, false, false, false, false, false, false, false, false, false, false] rfl rfl (any_of HT_.out (by kernel_rfl)) (fun _ _ _ h => h) (Or.inl ⟨by rfl, ?_⟩) ?_ ?_
                    rotate_left
                    · intro w'
                      go_simp
                      with_reducible rfl
                    rotate_left
                    · simp only [Act.put, List.setIfInBounds_toArray, List.set_cons_zero, List.set_cons_succ, i64_w, i32_w]
                      rfl
                    refine pure_ (i := 3) (N := some 21) (v := ?_) (a' := ?_) #[true, true, true, true, false, false, false, false, false, false, false, false, false, false, false, false, false, false, false, false, false, false, false, false, false, false, false, false, false, false, false, false, false, false, false, false, false, false, false, false] rfl rfl (any_of HT_.out (by kernel_rfl)) (fun _ _ _ h => h) (Or.inl ⟨by rfl, ?_⟩) ?_ ?_
                    rotate_left
                    · intro w'
                      go_simp
                      with_reducible rfl
                    rotate_left
                    · simp only [Act.put, List.setIfInBounds_toArray, List.set_cons_zero, List.set_cons_succ, i64_w, i32_w]
                      rfl
                    refine pure_ (i := 5) (N := some 23) (v := ?_) (a' := ?_) #[true, true, true, true, false, true, false, false, false, false, false, false, false, false, false, false, false, false, false, false, false, false, false, false, false, false, false, false, false, false, false, false, false, false, false, false, false, false, false, false] rfl rfl (any_of HT_.out (by kernel_rfl)) (fun _ _ _ h => h) (Or.inl ⟨by rfl, ?_⟩) ?_ ?_
                    rotate_left
                    · intro w'
                      go_simp
                      with_reducible rfl
                    rotate_left
                    · simp only [Act.put, List.setIfInBounds_toArray, List.set_cons_zero, List.set_cons_succ, i64_w, i32_w]
                      rfl
                    refine pure_ (i := 6) (N := some 24) (v := ?_) (a' := ?_) #[true, true, true, true, false, true, true, false, false, false, false, false, false, false, false, false, false, false, false, false, false, false, false, false, false, false, false, false, false, false, false, false, false, false, false, false, false, false, false, false] rfl rfl (any_of HT_.out (by kernel_rfl)) (fun _ _ _ h => h) (Or.inl ⟨by rfl, ?_⟩) ?_ ?_
                    rotate_left
                    · intro w'
                      go_simp
                      with_reducible rfl
                    rotate_left
                    · simp only [Act.put, List.setIfInBounds_toArray, List.set_cons_zero, List.set_cons_succ, i64_w, i32_w]
                      rfl
                    refine pure_ (i := 7) (N := some 25) (v := ?_) (a' := ?_) #[true, true, true, true, false, true, true, true, false, false, false, false, false, false, false, false, false, false, false, false, false, false, false, false, false, false, false, false, false, false, false, false, false, false, false, false, false, false, false, false] rfl rfl (any_of HT_.out (by kernel_rfl)) (fun _ _ _ h => h) (Or.inl ⟨by rfl, ?_⟩) ?_ ?_
                    rotate_left
                    · intro w'
                      go_simp
                      with_reducible rfl
                    rotate_left
                    · simp only [Act.put, List.setIfInBounds_toArray, List.set_cons_zero, List.set_cons_succ, i64_w, i32_w]
                      rfl
                    refine pure_ (i := 8) (N := some 26) (v := ?_) (a' := ?_) #[true, true, true, true, false, true, true, true, true, false, false, false, false, false, false, false, false, false, false, false, false, false, false, false, false, false, false, false, false, false, false, false, false, false, false, false, false, false, false, false] rfl rfl (any_of HT_.out (by kernel_rfl)) (fun _ _ _ h => h) (Or.inl ⟨by rfl, ?_⟩) ?_ ?_
                    rotate_left
                    · intro w'
                      go_simp
                      with_reducible rfl
                    rotate_left
                    · simp only [Act.put, List.setIfInBounds_toArray, List.set_cons_zero, List.set_cons_succ, i64_w, i32_w]
                      rfl
                    refine take_ (i := 4) (N := some 22) (v := ?_) (a' := ?_) #[true, true, true, true, true, true, true, true, true, false, false, false, false, false, false, false, false, false, false, false, false, false, false, false, false, false, false, false, false, false, false, false, false, false, false, false, false, false, false, false] rfl rfl (take_ofW HT_.out HW_.out (by kernel_rfl)) (fun _ _ _ h => h) (Or.inl ⟨by rfl, ?_⟩) hHeld ?_ ?_
                    rotate_left
                    · rintro w' ⟨s0, s1, s2, s3, s4, s5, s6, s7, s8, s9, s10, s11, s12, s13, s14, s15⟩
                      go_simp
                      with_reducible rfl
                    rotate_left
                    · simp only [Act.put, List.setIfInBounds_toArray, List.set_cons_zero, List.set_cons_succ, i64_w, i32_w]
                      rfl
                    refine take_ (i := 9) (N := some 27) (v := ?_) (a' := ?_) #[true, true, true, true, true, true, true, true, true, true, false, false, false, false, false, false, false, false, false, false, false, false, false, false, false, false, false, false, false, false, false, false, false, false, false, false, false, false, false, false] rfl rfl (take_ofW HT_.out HW_.out (by kernel_rfl)) (fun _ _ _ h => h) (Or.inl ⟨by rfl, ?_⟩) hHeld ?_ ?_
                    rotate_left
                    · rintro w' ⟨s0, s1, s2, s3, s4, s5, s6, s7, s8, s9, s10, s11, s12, s13, s14, s15⟩
                      go_simp
                      with_reducible rfl
                    rotate_left
                    · simp only [Act.put, List.setIfInBounds_toArray, List.set_cons_zero, List.set_cons_succ, i64_w, i32_w]
                      rfl
                    refine pure_ (i := 10) (N := some 28) (v := ?_) (a' := ?_) #[true, true, true, true, true, true, true, true, true, true, true, false, false, false, false, false, false, false, false, false, false, false, false, false, false, false, false, false, false, false, false, false, false, false, false, false, false, false, false, false] rfl rfl (any_of HT_.out (by kernel_rfl)) (fun _ _ _ h => h) (Or.inl ⟨by rfl, ?_⟩) ?_ ?_
                    rotate_left
                    · intro w'
                      go_simp
                      with_reducible rfl
                    rotate_left
                    · simp only [Act.put, List.setIfInBounds_toArray, List.set_cons_zero, List.set_cons_succ, i64_w, i32_w]
                      rfl
                    refine pure_ (i := 11) (N := some 29) (v := ?_) (a' := ?_) #[true, true, true, true, true, true, true, true, true, true, true, true, false, false, false, false, false, false, false, false, false, false, false, false, false, false, false, false, false, false, false, false, false, false, false, false, false, false, false, false] rfl rfl (any_of HT_.out (by kernel_rfl)) (fun _ _ _ h => h) (Or.inl ⟨by rfl, ?_⟩) ?_ ?_
                    rotate_left
                    · intro w'
                      go_simp
                      with_reducible rfl
                    rotate_left
                    · simp only [Act.put, List.setIfInBounds_toArray, List.set_cons_zero, List.set_cons_succ, i64_w, i32_w]
                      rfl
                    refine pure_ (i := 12) (N := some 30) (v := ?_) (a' := ?_) #[true, true, true, true, true, true, true, true, true, true, true, true, true, false, false, false, false, false, false, false, false, false, false, false, false, false, false, false, false, false, false, false, false, false, false, false, false, false, false, false] rfl rfl (any_of HT_.out (by kernel_rfl)) (fun _ _ _ h => h) (Or.inl ⟨by rfl, ?_⟩) ?_ ?_
                    rotate_left
                    · intro w'
                      go_simp
                      with_reducible rfl
                    rotate_left
                    · simp only [Act.put, List.setIfInBounds_toArray, List.set_cons_zero, List.set_cons_succ, i64_w, i32_w]
                      rfl
                    refine pure_ (i := 13) (N := some 31) (v := ?_) (a' := ?_) #[true, true, true, true, true, true, true, true, true, true, true, true, true, true, false, false, false, false, false, false, false, false, false, false, false, false, false, false, false, false, false, false, false, false, false, false, false, false, false, false] rfl rfl (any_of HT_.out (by kernel_rfl)) (fun _ _ _ h => h) (Or.inl ⟨by rfl, ?_⟩) ?_ ?_
                    rotate_left
                    · intro w'
                      go_simp
                      with_reducible rfl
                    rotate_left
                    · simp only [Act.put, List.setIfInBounds_toArray, List.set_cons_zero, List.set_cons_succ, i64_w, i32_w]
                      rfl
                    refine pure_ (i := 14) (N := some 32) (v := ?_) (a' := ?_) #[true, true, true, true, true, true, true, true, true, true, true, true, true, true, true, false, false, false, false, false, false, false, false, false, false, false, false, false, false, false, false, false, false, false, false, false, false, false, false, false] rfl rfl (any_of HT_.out (by kernel_rfl)) (fun _ _ _ h => h) (Or.inl ⟨by rfl, ?_⟩) ?_ ?_
                    rotate_left
                    · intro w'
                      go_simp
                      with_reducible rfl
                    rotate_left
                    · simp only [Act.put, List.setIfInBounds_toArray, List.set_cons_zero, List.set_cons_succ, i64_w, i32_w]
                      rfl
                    refine pure_ (i := 15) (N := some 33) (v := ?_) (a' := ?_) #[true, true, true, true, true, true, true, true, true, true, true, true, true, true, true, true, false, false, false, false, false, false, false, false, false, false, false, false, false, false, false, false, false, false, false, false, false, false, false, false] rfl rfl (any_of HT_.out (by kernel_rfl)) (fun _ _ _ h => h) (Or.inl ⟨by rfl, ?_⟩) ?_ ?_
                    rotate_left
                    · intro w'
                      go_simp
                      with_reducible rfl
                    rotate_left
                    · simp only [Act.put, List.setIfInBounds_toArray, List.set_cons_zero, List.set_cons_succ, i64_w, i32_w]
                      rfl
                    refine pure_ (i := 18) (N := some 36) (v := ?_) (a' := ?_) #[true, true, true, true, true, true, true, true, true, true, true, true, true, true, true, true, false, false, true, false, false, false, false, false, false, false, false, false, false, false, false, false, false, false, false, false, false, false, false, false] rfl rfl (any_of HT_.out (by kernel_rfl)) (fun _ _ _ h => h) (Or.inl ⟨by rfl, ?_⟩) ?_ ?_
                    rotate_left
                    · intro w'
                      go_simp
                      with_reducible rfl
                    rotate_left
                    · simp only [Act.put, List.setIfInBounds_toArray, List.set_cons_zero, List.set_cons_succ, i64_w, i32_w]
                      rfl
                    refine pure_ (i := 19) (N := some 37) (v := ?_) (a' := ?_) #[true, true, true, true, true, true, true, true, true, true, true, true, true, true, true, true, false, false, true, true, false, false, false, false, false, false, false, false, false, false, false, false, false, false, false, false, false, false, false, false] rfl rfl (any_of HT_.out (by kernel_rfl)) (fun _ _ _ h => h) (Or.inl ⟨by rfl, ?_⟩) ?_ ?_
                    rotate_left
                    · intro w'
                      go_simp
                      with_reducible rfl
                    rotate_left
                    · simp only [Act.put, List.setIfInBounds_toArray, List.set_cons_zero, List.set_cons_succ, i64_w, i32_w]
                      rfl
                    refine pure_ (i := 20) (N := some 38) (v := ?_) (a' := ?_) #[true, true, true, true, true, true, true, true, true, true, true, true, true, true, true, true, false, false, true, true, true, false, false, false, false, false, false, false, false, false, false, false, false, false, false, false, false, false, false, false] rfl rfl (any_of HT_.out (by kernel_rfl)) (fun _ _ _ h => h) (Or.inl ⟨by rfl, ?_⟩) ?_ ?_
                    rotate_left
                    · intro w'
                      go_simp
                      with_reducible rfl
                    rotate_left
                    · simp only [Act.put, List.setIfInBounds_toArray, List.set_cons_zero, List.set_cons_succ, i64_w, i32_w]
                      rfl
                    refine pure_ (i := 21) (N := some 39) (v := ?_) (a' := ?_) #[true, true, true, true, true, true, true, true, true, true, true, true, true, true, true, true, false, false, true, true, true, true, false, false, false, false, false, false, false, false, false, false, false, false, false, false, false, false, false, false] rfl rfl (any_of HT_.out (by kernel_rfl)) (fun _ _ _ h => h) (Or.inl ⟨by rfl, ?_⟩) ?_ ?_
                    rotate_left
                    · intro w'
                      go_simp
                      with_reducible rfl
                    rotate_left
                    · simp only [Act.put, List.setIfInBounds_toArray, List.set_cons_zero, List.set_cons_succ, i64_w, i32_w]
                      rfl
                    refine take_ (i := 16) (N := some 34) (v := ?_) (a' := ?_) #[true, true, true, true, true, true, true, true, true, true, true, true, true, true, true, true, true, false, true, true, true, true, false, false, false, false, false, false, false, false, false, false, false, false, false, false, false, false, false, false] rfl rfl (take_ofW HT_.out HW_.out (by kernel_rfl)) (fun _ _ _ h => h) (Or.inl ⟨by rfl, ?_⟩) hHeld ?_ ?_
                    rotate_left
                    · rintro w' ⟨s0, s1, s2, s3, s4, s5, s6, s7, s8, s9, s10, s11, s12, s13, s14, s15⟩
                      go_simp
                      with_reducible rfl
                    rotate_left
                    · simp only [Act.put, List.setIfInBounds_toArray, List.set_cons_zero, List.set_cons_succ, i64_w, i32_w]
                      rfl
                    refine pure_ (i := 17) (N := some 35) (v := ?_) (a' := ?_) #[true, true, true, true, true, true, true, true, true, true, true, true, true, true, true, true, true, true, true, true, true, true, false, false, false, false, false, false, false, false, false, false, false, false, false, false, false, false, false, false] rfl rfl (any_of HT_.out (by kernel_rfl)) (fun _ _ _ h => h) (Or.inl ⟨by rfl, ?_⟩) ?_ ?_
                    rotate_left
                    · intro w'
                      go_simp
                      with_reducible rfl
                    rotate_left
                    · simp only [Act.put, List.setIfInBounds_toArray, List.set_cons_zero, List.set_cons_succ, i64_w, i32_w]
                      rfl
                    refine take_ (i := 22) (N := some 40) (v := ?_) (a' := ?_) #[true, true, true, true, true, true, true, true, true, true, true, true, true, true, true, true, true, true, true, true, true, true, true, false, false, false, false, false, false, false, false, false, false, false, false, false, false, false, false, false] rfl rfl (take_ofW HT_.out HW_.out (by kernel_rfl)) (fun _ _ _ h => h) (Or.inl ⟨by rfl, ?_⟩) hHeld ?_ ?_
                    rotate_left
                    · rintro w' ⟨s0, s1, s2, s3, s4, s5, s6, s7, s8, s9, s10, s11, s12, s13, s14, s15⟩
                      go_simp
                      with_reducible rfl
                    rotate_left
                    · simp only [Act.put, List.setIfInBounds_toArray, List.set_cons_zero, List.set_cons_succ, i64_w, i32_w]
                      rfl
                    refine pure_ (i := 23) (N := some 41) (v := ?_) (a' := ?_) #[true, true, true, true, true, true, true, true, true, true, true, true, true, true, true, true, true, true, true, true, true, true, true, true, false, false, false, false, false, false, false, false, false, false, false, false, false, false, false, false] rfl rfl (any_of HT_.out (by kernel_rfl)) (fun _ _ _ h => h) (Or.inl ⟨by rfl, ?_⟩) ?_ ?_
                    rotate_left
                    · intro w'
                      go_simp
                      with_reducible rfl
                    rotate_left
                    · simp only [Act.put, List.setIfInBounds_toArray, List.set_cons_zero, List.set_cons_succ, i64_w, i32_w]
                      rfl
                    refine pure_ (i := 24) (N := some 42) (v := ?_) (a' := ?_) #[true, true, true, true, true, true, true, true, true, true, true, true, true, true, true, true, true, true, true, true, true, true, true, true, true, false, false, false, false, false, false, false, false, false, false, false, false, false, false, false] rfl rfl (any_of HT_.out (by kernel_rfl)) (fun _ _ _ h => h) (Or.inl ⟨by rfl, ?_⟩) ?_ ?_
                    rotate_left
                    · intro w'
                      go_simp
                      with_reducible rfl
                    rotate_left
                    · simp only [Act.put, List.setIfInBounds_toArray, List.set_cons_zero, List.set_cons_succ, i64_w, i32_w]
                      rfl
                    refine pure_ (i := 25) (N := some 43) (v := ?_) (a' := ?_) #[true, true, true, true, true, true, true, true, true, true, true, true, true, true, true, true, true, true, true, true, true, true, true, true, true, true, false, false, false, false, false, false, false, false, false, false, false, false, false, false] rfl rfl (any_of HT_.out (by kernel_rfl)) (fun _ _ _ h => h) (Or.inl ⟨by rfl, ?_⟩) ?_ ?_
                    rotate_left
                    · intro w'
                      go_simp
                      with_reducible rfl
                    rotate_left
                    · simp only [Act.put, List.setIfInBounds_toArray, List.set_cons_zero, List.set_cons_succ, i64_w, i32_w]
                      rfl
                    refine pure_ (i := 26) (N := some 44) (v := ?_) (a' := ?_) #[true, true, true, true, true, true, true, true, true, true, true, true, true, true, true, true, true, true, true, true, true, true, true, true, true, true, true, false, false, false, false, false, false, false, false, false, false, false, false, false] rfl rfl (any_of HT_.out (by kernel_rfl)) (fun _ _ _ h => h) (Or.inl ⟨by rfl, ?_⟩) ?_ ?_
                    rotate_left
                    · intro w'
                      go_simp
                      with_reducible rfl
                    rotate_left
                    · simp only [Act.put, List.setIfInBounds_toArray, List.set_cons_zero, List.set_cons_succ, i64_w, i32_w]
                      rfl
                    refine pure_ (i := 27) (N := some 45) (v := undef) (a' := ?_) #[true, true, true, true, true, true, true, true, true, true, true, true, true, true, true, true, true, true, true, true, true, true, true, true, true, true, true, true, false, false, false, false, false, false, false, false, false, false, false, false] rfl rfl (any_of HT_.out (by kernel_rfl)) (fun _ _ _ h => h) (Or.inr ⟨by rfl, rfl⟩) ?_ ?_
                    rotate_left
                    · simp only [Act.put, List.setIfInBounds_toArray, List.set_cons_zero, List.set_cons_succ, i64_w, i32_w]
                      rfl
                    refine pure_ (i := 28) (N := some 46) (v := undef) (a' := ?_) #[true, true, true, true, true, true, true, true, true, true, true, true, true, true, true, true, true, true, true, true, true, true, true, true, true, true, true, true, true, false, false, false, false, false, false, false, false, false, false, false] rfl rfl (any_of HT_.out (by kernel_rfl)) (fun _ _ _ h => h) (Or.inr ⟨by rfl, rfl⟩) ?_ ?_
                    rotate_left
                    · simp only [Act.put, List.setIfInBounds_toArray, List.set_cons_zero, List.set_cons_succ, i64_w, i32_w]
                      rfl
                    refine pure_ (i := 29) (N := some 47) (v := undef) (a' := ?_) #[true, true, true, true, true, true, true, true, true, true, true, true, true, true, true, true, true, true, true, true, true, true, true, true, true, true, true, true, true, true, false, false, false, false, false, false, false, false, false, false] rfl rfl (any_of HT_.out (by kernel_rfl)) (fun _ _ _ h => h) (Or.inr ⟨by rfl, rfl⟩) ?_ ?_
                    rotate_left
                    · simp only [Act.put, List.setIfInBounds_toArray, List.set_cons_zero, List.set_cons_succ, i64_w, i32_w]
                      rfl
                    refine pure_ (i := 30) (N := some 48) (v := undef) (a' := ?_) #[true, true, true, true, true, true, true, true, true, true, true, true, true, true, true, true, true, true, true, true, true, true, true, true, true, true, true, true, true, true, true, false, false, false, false, false, false, false, false, false] rfl rfl (any_of HT_.out (by kernel_rfl)) (fun _ _ _ h => h) (Or.inr ⟨by rfl, rfl⟩) ?_ ?_
                    rotate_left
                    · simp only [Act.put, List.setIfInBounds_toArray, List.set_cons_zero, List.set_cons_succ, i64_w, i32_w]
                      rfl
                    refine pure_ (i := 31) (N := some 49) (v := undef) (a' := ?_) #[true, true, true, true, true, true, true, true, true, true, true, true, true, true, true, true, true, true, true, true, true, true, true, true, true, true, true, true, true, true, true, true, false, false, false, false, false, false, false, false] rfl rfl (any_of HT_.out (by kernel_rfl)) (fun _ _ _ h => h) (Or.inr ⟨by rfl, rfl⟩) ?_ ?_
                    rotate_left
                    · simp only [Act.put, List.setIfInBounds_toArray, List.set_cons_zero, List.set_cons_succ, i64_w, i32_w]
                      rfl
                    refine pure_ (i := 32) (N := some 50) (v := undef) (a' := ?_) #[true, true, true, true, true, true, true, true, true, true, true, true, true, true, true, true, true, true, true, true, true, true, true, true, true, true, true, true, true, true, true, true, true, false, false, false, false, false, false, false] rfl rfl (any_of HT_.out (by kernel_rfl)) (fun _ _ _ h => h) (Or.inr ⟨by rfl, rfl⟩) ?_ ?_
                    rotate_left
                    · simp only [Act.put, List.setIfInBounds_toArray, List.set_cons_zero, List.set_cons_succ, i64_w, i32_w]
                      rfl
                    refine pure_ (i := 33) (N := some 51) (v := undef) (a' := ?_) #[true, true, true, true, true, true, true, true, true, true, true, true, true, true, true, true, true, true, true, true, true, true, true, true, true, true, true, true, true, true, true, true, true, true, false, false, false, false, false, false] rfl rfl (any_of HT_.out (by kernel_rfl)) (fun _ _ _ h => h) (Or.inr ⟨by rfl, rfl⟩) ?_ ?_
                    rotate_left
                    · simp only [Act.put, List.setIfInBounds_toArray, List.set_cons_zero, List.set_cons_succ, i64_w, i32_w]
                      rfl
                    refine pure_ (i := 34) (N := some 52) (v := undef) (a' := ?_) #[true, true, true, true, true, true, true, true, true, true, true, true, true, true, true, true, true, true, true, true, true, true, true, true, true, true, true, true, true, true, true, true, true, true, true, false, false, false, false, false] rfl rfl (any_of HT_.out (by kernel_rfl)) (fun _ _ _ h => h) (Or.inr ⟨by rfl, rfl⟩) ?_ ?_
                    rotate_left
                    · simp only [Act.put, List.setIfInBounds_toArray, List.set_cons_zero, List.set_cons_succ, i64_w, i32_w]
                      rfl
                    refine pure_ (i := 35) (N := some 53) (v := undef) (a' := ?_) #[true, true, true, true, true, true, true, true, true, true, true, true, true, true, true, true, true, true, true, true, true, true, true, true, true, true, true, true, true, true, true, true, true, true, true, true, false, false, false, false] rfl rfl (any_of HT_.out (by kernel_rfl)) (fun _ _ _ h => h) (Or.inr ⟨by rfl, rfl⟩) ?_ ?_
                    rotate_left
                    · simp only [Act.put, List.setIfInBounds_toArray, List.set_cons_zero, List.set_cons_succ, i64_w, i32_w]
                      rfl
                    refine pure_ (i := 36) (N := some 54) (v := undef) (a' := ?_) #[true, true, true, true, true, true, true, true, true, true, true, true, true, true, true, true, true, true, true, true, true, true, true, true, true, true, true, true, true, true, true, true, true, true, true, true, true, false, false, false] rfl rfl (any_of HT_.out (by kernel_rfl)) (fun _ _ _ h => h) (Or.inr ⟨by rfl, rfl⟩) ?_ ?_
                    rotate_left
                    · simp only [Act.put, List.setIfInBounds_toArray, List.set_cons_zero, List.set_cons_succ, i64_w, i32_w]
                      rfl
                    refine pure_ (i := 37) (N := some 55) (v := undef) (a' := ?_) #[true, true, true, true, true, true, true, true, true, true, true, true, true, true, true, true, true, true, true, true, true, true, true, true, true, true, true, true, true, true, true, true, true, true, true, true, true, true, false, false] rfl rfl (any_of HT_.out (by kernel_rfl)) (fun _ _ _ h => h) (Or.inr ⟨by rfl, rfl⟩) ?_ ?_
                    rotate_left
                    · simp only [Act.put, List.setIfInBounds_toArray, List.set_cons_zero, List.set_cons_succ, i64_w, i32_w]
                      rfl
                    refine pure_ (i := 38) (N := some 56) (v := undef) (a' := ?_) #[true, true, true, true, true, true, true, true, true, true, true, true, true, true, true, true, true, true, true, true, true, true, true, true, true, true, true, true, true, true, true, true, true, true, true, true, true, true, true, false] rfl rfl (any_of HT_.out (by kernel_rfl)) (fun _ _ _ h => h) (Or.inr ⟨by rfl, rfl⟩) ?_ ?_
                    rotate_left
                    · simp only [Act.put, List.setIfInBounds_toArray, List.set_cons_zero, List.set_cons_succ, i64_w, i32_w]
                      rfl
                    refine pure_ (i := 39) (N := some 57) (v := ?_) (a' := ?_) #[true, true, true, true, true, true, true, true, true, true, true, true, true, true, true, true, true, true, true, true, true, true, true, true, true, true, true, true, true, true, true, true, true, true, true, true, true, true, true, true] rfl rfl (any_of HT_.out (by kernel_rfl)) (fun _ _ _ h => h) (Or.inl ⟨by rfl, ?_⟩) ?_ ?_
                    rotate_left
                    · intro w'
                      go_simp
                      with_reducible rfl
                    rotate_left
                    · simp only [Act.put, List.setIfInBounds_toArray, List.set_cons_zero, List.set_cons_succ, i64_w, i32_w]
                      rfl
                    refine done_ (done_of HT_.out (by kernel_rfl)) ?_
                    try go_wp2
                    go_meet
                    case rel => exact ⟨_, (true), (by first | rfl | (simp; done) | (simp [*]; done)), H', ⟨by have := HK1.out; first | omega | exact Nat.le_refl _⟩, ⟨by repeat (first | (with_reducible first | exact HB.out | apply below_alloc | apply pw_below_drewN | apply below_drew1) | exact HB.out)⟩⟩
              · rw [if_neg c7] at H
                exact absurd H (by simp)
            · rw [if_neg c6] at H
              exact absurd H (by simp)
          case rest =>
            clear HC5
            try clear c1
            try clear p1
            try clear q1
            try clear hx1
            try clear p2
            try clear c3
            try clear c6
            try clear c7
            try clear c10
            try clear c10b0
            try clear c10b1
            try clear c10b2
            try clear hx167_0
            try clear hx167_1
            try clear hx167_2
            try clear hx167_3
            try clear hx168_0
            try clear hx168_1
            try clear hx168_2
            try clear hx168_3
            try clear hx169_0
            try clear hx169_1
            try clear hx169_2
            try clear hx169_3
            try clear hx170_0
            try clear hx170_1
            try clear hx170_2
            try clear hx170_3
            try clear p167
            try clear p168
            try clear p169
            try clear p170
            try clear q167
            try clear q168
            try clear q169
            try clear q170
            obtain ⟨kq, x57_4, rfl, HA, HJ4, HB⟩ := hcut
            cases kq with
            | zero => exact absurd HA.out (by simp [sennitref21_Same.j1])
            | succ kj4 =>
              have H := HA.out
              clear HA
              simp only [sennitref21_Same.j1] at H
              by_cases c14 : x57_4 = true
              · subst c14
                have H1 : (some false) = some r := by rw [if_pos rfl] at H; exact H
                clear H
                have H := H1
                clear H1
                obtain rfl := Option.some.inj H
                go_wp2
                go_ret
                exact ⟨by first | rfl | (simp [errW_none, errW_some] <;> rfl) | (simp [*, errW_none, errW_some] <;> rfl), by repeat (first | (with_reducible first | exact HB.out | apply below_alloc | apply pw_below_drewN | apply below_drew1) | exact HB.out)⟩
              · replace c14 := Bool.eq_false_iff.mpr c14
                subst c14
                have H1 : (sennitref21_Same.l1 kj4 l0 l1 x5_1 0) = some r := by rw [if_neg (show ¬ (false = true) by decide)] at H; exact H
                clear H
                have H := H1
                clear H1
                have H' := Aside0.mk H
                clear H
                go_wp2
                go_loopg [6] kj4 (fun kq v6 w' => ∃ (x6_3 : Int), v6 = .int .i64 x6_3 ∧ Aside0 (sennitref21_Same.l1 kq l0 l1 x5_1 x6_3 = some r) ∧ Aside0 (kq ≤ kj4) ∧ Aside0 (Below w.heap.size w w'))
                case atStart => exact ⟨(0), (by first | rfl | (simp; done) | (simp [*]; done)), H', ⟨Nat.le_refl _⟩, ⟨by repeat (first | (with_reducible first | exact HB.out | apply below_alloc | apply pw_below_drewN | apply below_drew1) | exact HB.out)⟩⟩
                case round =>
                  clear H'
                  try clear c1
                  try clear p1
                  try clear q1
                  try clear hx1
                  try clear p2
                  try clear c3
                  try clear c6
                  try clear c7
                  try clear c10
                  try clear c10b0
                  try clear c10b1
                  try clear c10b2
                  try clear c14
                  try clear hx167_0
                  try clear hx167_1
                  try clear hx167_2
                  try clear hx167_3
                  try clear hx168_0
                  try clear hx168_1
                  try clear hx168_2
                  try clear hx168_3
                  try clear hx169_0
                  try clear hx169_1
                  try clear hx169_2
                  try clear hx169_3
                  try clear hx170_0
                  try clear hx170_1
                  try clear hx170_2
                  try clear hx170_3
                  try clear p1
                  try clear p167
                  try clear p168
                  try clear p169
                  try clear p170
                  try clear p2
                  try clear q1
                  try clear q167
                  try clear q168
                  try clear q169
                  try clear q170
                  obtain ⟨x6_3, rfl, HA, HK3, HB⟩ := hrel
                  cases gk with
                  | zero => exact absurd HA.out (by simp [sennitref21_Same.l1])
                  | succ k3 =>
                    have H := HA.out
                    clear HA
                    simp only [sennitref21_Same.l1] at H
                    by_cases c15 : 0 ≤ x5_1
                    · rw [if_pos c15] at H
                      have c15b0 : decide (0 ≤ x5_1) = true := decide_eq_true c15
                      clear c15
                      by_cases c16 : x5_1 < (l0.length : Int)
                      · rw [if_pos c16] at H
                        have c16b0 : decide (x5_1 < (l0.length : Int)) = true := decide_eq_true c16
                        clear c16
                        by_cases c17 : x6_3 < (((rd_T48 l0 x5_1).f0).length : Int)
                        · rw [if_pos c17] at H
                          have c17b0 : decide (x6_3 < (((rd_T48 l0 x5_1).f0).length : Int)) = true := decide_eq_true c17
                          clear c17
                          by_cases c18 : 0 ≤ x6_3
                          · rw [if_pos c18] at H
                            have c18b0 : decide (0 ≤ x6_3) = true := decide_eq_true c18
                            clear c18
                            by_cases c19 : x5_1 < (l1.length : Int)
                            · rw [if_pos c19] at H
                              have c19b0 : decide (x5_1 < (l1.length : Int)) = true := decide_eq_true c19
                              clear c19
                              by_cases c20 : x6_3 < (((rd_T48 l1 x5_1).f0).length : Int)
                              · rw [if_pos c20] at H
                                have c20b0 : decide (x6_3 < (((rd_T48 l1 x5_1).f0).length : Int)) = true := decide_eq_true c20
                                clear c20
                                by_cases c21 : (!(((rd_T45 ((rd_T48 l0 x5_1).f0) x6_3).f0) == ((rd_T45 ((rd_T48 l1 x5_1).f0) x6_3).f0)) || (!(((rd_T45 ((rd_T48 l0 x5_1).f0) x6_3).f1) == ((rd_T45 ((rd_T48 l1 x5_1).f0) x6_3).f1)))) = true
                                · rw [if_pos c21] at H
                                  have c21b0 : (!(((rd_T45 ((rd_T48 l0 x5_1).f0) x6_3).f0) == ((rd_T45 ((rd_T48 l1 x5_1).f0) x6_3).f0)) || (!(((rd_T45 ((rd_T48 l0 x5_1).f0) x6_3).f1) == ((rd_T45 ((rd_T48 l1 x5_1).f0) x6_3).f1)))) = true := c21
                                  clear c21
                                  obtain rfl := Option.some.inj H
                                  have p174 : 0 ≤ (x5_1 : Int) := of_decide_eq_true (by first | (with_reducible assumption) | assumption)
                                  have q174 : x5_1 < (l0.length : Int) := of_decide_eq_true (by first | (with_reducible assumption) | assumption)
                                  obtain ⟨ad174, A174_0, c174_0, A174_3, c174_3, e174, hx174_0, hx174_1, hx174_2, hx174_3, hl174_0, hi174_0, hl174_3, hi174_3⟩ := at_T48 HR0.out x5_1 p174 q174
                                  cases e174
                                  replace hx174_0 := (HB.out.cell (World.block_lt_of_cell? w _ hx174_0)).trans hx174_0
                                  replace hx174_1 := (HB.out.cell (World.block_lt_of_cell? w _ hx174_1)).trans hx174_1
                                  replace hx174_2 := (HB.out.cell (World.block_lt_of_cell? w _ hx174_2)).trans hx174_2
                                  replace hx174_3 := (HB.out.cell (World.block_lt_of_cell? w _ hx174_3)).trans hx174_3
                                  have HR174_0 := Aside0.mk hi174_0
                                  have HC174_0 := Aside0.mk hl174_0
                                  clear hi174_0 hl174_0
                                  have HR174_3 := Aside0.mk hi174_3
                                  have HC174_3 := Aside0.mk hl174_3
                                  clear hi174_3 hl174_3
                                  replace p174 := eq_true p174
                                  replace q174 := eq_true q174
                                  try go_wp2
                                  have n0_ := Aside0.mk (below_drew1 HB.out)
                                  clear HB
                                  have HB := n0_
                                  clear n0_
                                  have p175 : 0 ≤ (x5_1 : Int) := of_decide_eq_true (by first | (with_reducible assumption) | assumption)
                                  have q175 : x5_1 < (l0.length : Int) := of_decide_eq_true (by first | (with_reducible assumption) | assumption)
                                  obtain ⟨ad175, A175_0, c175_0, A175_3, c175_3, e175, hx175_0, hx175_1, hx175_2, hx175_3, hl175_0, hi175_0, hl175_3, hi175_3⟩ := at_T48 HR0.out x5_1 p175 q175
                                  have hw175_3 := hx175_3
                                  have hw175_2 := hx175_2
                                  have hw175_1 := hx175_1
                                  have hw175_0 := hx175_0
                                  obtain rfl : ad174 = ad175 := (by injection e175)
                                  replace hx175_0 := (HB.out.cell (World.block_lt_of_cell? w _ hx175_0)).trans hx175_0
                                  replace hx175_1 := (HB.out.cell (World.block_lt_of_cell? w _ hx175_1)).trans hx175_1
                                  replace hx175_2 := (HB.out.cell (World.block_lt_of_cell? w _ hx175_2)).trans hx175_2
                                  replace hx175_3 := (HB.out.cell (World.block_lt_of_cell? w _ hx175_3)).trans hx175_3
                                  have HR175_0 := Aside0.mk hi175_0
                                  have HC175_0 := Aside0.mk hl175_0
                                  clear hi175_0 hl175_0
                                  have HR175_3 := Aside0.mk hi175_3
                                  have HC175_3 := Aside0.mk hl175_3
                                  clear hi175_3 hl175_3
                                  replace p175 := eq_true p175
                                  replace q175 := eq_true q175
                                  have p176 : 0 ≤ (x6_3 : Int) := of_decide_eq_true (by first | (with_reducible assumption) | assumption)
                                  have q176 : x6_3 < (((rd_T48 l0 x5_1).f0).length : Int) := of_decide_eq_true (by first | (with_reducible assumption) | assumption)
                                  obtain ⟨ad176, e176, hx176_0, hx176_1⟩ := at_T45 HR175_0.out x6_3 p176 q176
                                  have hw176_1 := hx176_1
                                  have hw176_0 := hx176_0
                                  cases e176
                                  replace hx176_0 := (HB.out.cell (World.block_lt_of_cell? w _ hx176_0)).trans hx176_0
                                  replace hx176_1 := (HB.out.cell (World.block_lt_of_cell? w _ hx176_1)).trans hx176_1
                                  replace p176 := eq_true p176
                                  replace q176 := eq_true q176
                                  have p177 : 0 ≤ (x5_1 : Int) := of_decide_eq_true (by first | (with_reducible assumption) | assumption)
                                  have q177 : x5_1 < (l1.length : Int) := of_decide_eq_true (by first | (with_reducible assumption) | assumption)
                                  obtain ⟨ad177, A177_0, c177_0, A177_3, c177_3, e177, hx177_0, hx177_1, hx177_2, hx177_3, hl177_0, hi177_0, hl177_3, hi177_3⟩ := at_T48 HR1.out x5_1 p177 q177
                                  have hw177_3 := hx177_3
                                  have hw177_2 := hx177_2
                                  have hw177_1 := hx177_1
                                  have hw177_0 := hx177_0
                                  cases e177
                                  replace hx177_0 := (HB.out.cell (World.block_lt_of_cell? w _ hx177_0)).trans hx177_0
                                  replace hx177_1 := (HB.out.cell (World.block_lt_of_cell? w _ hx177_1)).trans hx177_1
                                  replace hx177_2 := (HB.out.cell (World.block_lt_of_cell? w _ hx177_2)).trans hx177_2
                                  replace hx177_3 := (HB.out.cell (World.block_lt_of_cell? w _ hx177_3)).trans hx177_3
                                  have HR177_0 := Aside0.mk hi177_0
                                  have HC177_0 := Aside0.mk hl177_0
                                  clear hi177_0 hl177_0
                                  have HR177_3 := Aside0.mk hi177_3
                                  have HC177_3 := Aside0.mk hl177_3
                                  clear hi177_3 hl177_3
                                  replace p177 := eq_true p177
                                  replace q177 := eq_true q177
                                  have p178 : 0 ≤ (x6_3 : Int) := of_decide_eq_true (by first | (with_reducible assumption) | assumption)
                                  have q178 : x6_3 < (((rd_T48 l1 x5_1).f0).length : Int) := of_decide_eq_true (by first | (with_reducible assumption) | assumption)
                                  obtain ⟨ad178, e178, hx178_0, hx178_1⟩ := at_T45 HR177_0.out x6_3 p178 q178
                                  have hw178_1 := hx178_1
                                  have hw178_0 := hx178_0
                                  cases e178
                                  replace hx178_0 := (HB.out.cell (World.block_lt_of_cell? w _ hx178_0)).trans hx178_0
                                  replace hx178_1 := (HB.out.cell (World.block_lt_of_cell? w _ hx178_1)).trans hx178_1
                                  replace p178 := eq_true p178
                                  replace q178 := eq_true q178
                                  refine start_ (n := 17) (S := fun w' => w'.cell? (ad174.add ((x5_1).toNat * 4)) = some (.slice (some ad176) ((rd_T48 l0 x5_1).f0).length c175_0) ∧ w'.cell? ⟨(ad174.add ((x5_1).toNat * 4)).block, (ad174.add ((x5_1).toNat * 4)).off + 1, none⟩ = some (.int .i64 ((rd_T48 l0 x5_1).f1.f0)) ∧ w'.cell? ⟨(ad174.add ((x5_1).toNat * 4)).block, (ad174.add ((x5_1).toNat * 4)).off + 2, none⟩ = some (.int .i64 ((rd_T48 l0 x5_1).f1.f1)) ∧ w'.cell? ⟨(ad174.add ((x5_1).toNat * 4)).block, (ad174.add ((x5_1).toNat * 4)).off + 3, none⟩ = some (.slice A175_3 ((rd_T48 l0 x5_1).f2).length c175_3) ∧ w'.cell? (ad176.add ((x6_3).toNat * 2)) = some (.int .i64 ((rd_T45 ((rd_T48 l0 x5_1).f0) x6_3).f0)) ∧ w'.cell? ⟨(ad176.add ((x6_3).toNat * 2)).block, (ad176.add ((x6_3).toNat * 2)).off + 1, none⟩ = some (.int .i64 ((rd_T45 ((rd_T48 l0 x5_1).f0) x6_3).f1)) ∧ w'.cell? (ad177.add ((x5_1).toNat * 4)) = some (.slice (some ad178) ((rd_T48 l1 x5_1).f0).length c177_0) ∧ w'.cell? ⟨(ad177.add ((x5_1).toNat * 4)).block, (ad177.add ((x5_1).toNat * 4)).off + 1, none⟩ = some (.int .i64 ((rd_T48 l1 x5_1).f1.f0)) ∧ w'.cell? ⟨(ad177.add ((x5_1).toNat * 4)).block, (ad177.add ((x5_1).toNat * 4)).off + 2, none⟩ = some (.int .i64 ((rd_T48 l1 x5_1).f1.f1)) ∧ w'.cell? ⟨(ad177.add ((x5_1).toNat * 4)).block, (ad177.add ((x5_1).toNat * 4)).off + 3, none⟩ = some (.slice A177_3 ((rd_T48 l1 x5_1).f2).length c177_3) ∧ w'.cell? (ad178.add ((x6_3).toNat * 2)) = some (.int .i64 ((rd_T45 ((rd_T48 l1 x5_1).f0) x6_3).f0)) ∧ w'.cell? ⟨(ad178.add ((x6_3).toNat * 2)).block, (ad178.add ((x6_3).toNat * 2)).off + 1, none⟩ = some (.int .i64 ((rd_T45 ((rd_T48 l1 x5_1).f0) x6_3).f1))) (ds := []) #[false, false, false, false, false, false, false, false, false, false, false, false, false, false, false, false, false] (by kernel_rfl) rfl rfl ⟨((HB.out.cell (World.block_lt_of_cell? w _ hw175_0)).trans hw175_0), ((HB.out.cell (World.block_lt_of_cell? w _ hw175_1)).trans hw175_1), ((HB.out.cell (World.block_lt_of_cell? w _ hw175_2)).trans hw175_2), ((HB.out.cell (World.block_lt_of_cell? w _ hw175_3)).trans hw175_3), ((HB.out.cell (World.block_lt_of_cell? w _ hw176_0)).trans hw176_0), ((HB.out.cell (World.block_lt_of_cell? w _ hw176_1)).trans hw176_1), ((HB.out.cell (World.block_lt_of_cell? w _ hw177_0)).trans hw177_0), ((HB.out.cell (World.block_lt_of_cell? w _ hw177_1)).trans hw177_1), ((HB.out.cell (World.block_lt_of_cell? w _ hw177_2)).trans hw177_2), ((HB.out.cell (World.block_lt_of_cell? w _ hw177_3)).trans hw177_3), ((HB.out.cell (World.block_lt_of_cell? w _ hw178_0)).trans hw178_0), ((HB.out.cell (World.block_lt_of_cell? w _ hw178_1)).trans hw178_1)⟩ (fun hHeld => ?_); refine with_tabW sennitref21_Same.tab11 sennitref21_Same.bits11 (fun HT_ HW_ => ?_)
                                  generalize wr.drew = w22 at HB HR175_0 HR175_3 HR177_0 HR177_3 hx175_0 hx175_1 hx175_2 hx175_3 hx176_0 hx176_1 hx177_0 hx177_1 hx177_2 hx177_3 hx178_0 hx178_1 hHeld ⊢
                                  refine pure_ (i := 0) (N := some 68) (v := ?_) (a' := ?_) #[true, false, false, false, false, false, false, false, false, false, false, false, false, false, false, false, false] rfl rfl (any_of HT_.out (by kernel_rfl)) (fun _ _ _ h => h) (Or.inl ⟨by rfl, ?_⟩) ?_ ?_
                                  rotate_left
                                  · intro w'
                                    go_simp
                                    with_reducible rfl
                                  rotate_left
                                  · simp only [Act.put, List.setIfInBounds_toArray, List.set_cons_zero, List.set_cons_succ, i64_w, i32_w]
                                    rfl
                                  refine pure_ (i := 1) (N := some 69) (v := ?_) (a' := ?_) #[true, true, false, false, false, false, false, false, false, false, false, false, false, false, false, false, false] rfl rfl (any_of HT_.out (by kernel_rfl)) (fun _ _ _ h => h) (Or.inl ⟨by rfl, ?_⟩) ?_ ?_
                                  rotate_left
                                  · intro w'
                                    go_simp
                                    with_reducible rfl
                                  rotate_left
                                  · simp only [Act.put, List.setIfInBounds_toArray, List.set_cons_zero, List.set_cons_succ, i64_w, i32_w]
                                    rfl
                                  refine pure_ (i := 2) (N := some 70) (v := ?_) (a' := ?_) #[true, true, true, false, false, false, false, false, false, false, false, false, false, false, false, false, false] rfl rfl (any_of HT_.out (by kernel_rfl)) (fun _ _ _ h => h) (Or.inl ⟨by rfl, ?_⟩) ?_ ?_
                                  rotate_left
                                  · intro w'
                                    go_simp
                                    with_reducible rfl
                                  rotate_left
                                  · simp only [Act.put, List.setIfInBounds_toArray, List.set_cons_zero, List.set_cons_succ, i64_w, i32_w]
                                    rfl
                                  refine pure_ (i := 3) (N := some 71) (v := ?_) (a' := ?_) #[true, true, true, true, false, false, false, false, false, false, false, false, false, false, false, false, false] rfl rfl (any_of HT_.out (by kernel_rfl)) (fun _ _ _ h => h) (Or.inl ⟨by rfl, ?_⟩) ?_ ?_
                                  rotate_left
                                  · intro w'
                                    go_simp
                                    with_reducible rfl
                                  rotate_left
                                  · simp only [Act.put, List.setIfInBounds_toArray, List.set_cons_zero, List.set_cons_succ, i64_w, i32_w]
                                    rfl
                                  refine pure_ (i := 5) (N := some 73) (v := ?_) (a' := ?_) #[true, true, true, true, false, true, false, false, false, false, false, false, false, false, false, false, false] rfl rfl (any_of HT_.out (by kernel_rfl)) (fun _ _ _ h => h) (Or.inl ⟨by rfl, ?_⟩) ?_ ?_
                                  rotate_left
                                  · intro w'
                                    go_simp
                                    with_reducible rfl
                                  rotate_left
                                  · simp only [Act.put, List.setIfInBounds_toArray, List.set_cons_zero, List.set_cons_succ, i64_w, i32_w]
                                    rfl
                                  refine pure_ (i := 8) (N := some 76) (v := ?_) (a' := ?_) #[true, true, true, true, false, true, false, false, true, false, false, false, false, false, false, false, false] rfl rfl (any_of HT_.out (by kernel_rfl)) (fun _ _ _ h => h) (Or.inl ⟨by rfl, ?_⟩) ?_ ?_
                                  rotate_left
                                  · intro w'
                                    go_simp
                                    with_reducible rfl
                                  rotate_left
                                  · simp only [Act.put, List.setIfInBounds_toArray, List.set_cons_zero, List.set_cons_succ, i64_w, i32_w]
                                    rfl
                                  refine pure_ (i := 9) (N := some 77) (v := ?_) (a' := ?_) #[true, true, true, true, false, true, false, false, true, true, false, false, false, false, false, false, false] rfl rfl (any_of HT_.out (by kernel_rfl)) (fun _ _ _ h => h) (Or.inl ⟨by rfl, ?_⟩) ?_ ?_
                                  rotate_left
                                  · intro w'
                                    go_simp
                                    with_reducible rfl
                                  rotate_left
                                  · simp only [Act.put, List.setIfInBounds_toArray, List.set_cons_zero, List.set_cons_succ, i64_w, i32_w]
                                    rfl
                                  refine pure_ (i := 10) (N := some 78) (v := ?_) (a' := ?_) #[true, true, true, true, false, true, false, false, true, true, true, false, false, false, false, false, false] rfl rfl (any_of HT_.out (by kernel_rfl)) (fun _ _ _ h => h) (Or.inl ⟨by rfl, ?_⟩) ?_ ?_
                                  rotate_left
                                  · intro w'
                                    go_simp
                                    with_reducible rfl
                                  rotate_left
                                  · simp only [Act.put, List.setIfInBounds_toArray, List.set_cons_zero, List.set_cons_succ, i64_w, i32_w]
                                    rfl
                                  refine pure_ (i := 11) (N := some 79) (v := ?_) (a' := ?_) #[true, true, true, true, false, true, false, false, true, true, true, true, false, false, false, false, false] rfl rfl (any_of HT_.out (by kernel_rfl)) (fun _ _ _ h => h) (Or.inl ⟨by rfl, ?_⟩) ?_ ?_
                                  rotate_left
                                  · intro w'
                                    go_simp
                                    with_reducible rfl
                                  rotate_left
                                  · simp only [Act.put, List.setIfInBounds_toArray, List.set_cons_zero, List.set_cons_succ, i64_w, i32_w]
                                    rfl
                                  refine pure_ (i := 13) (N := some 81) (v := ?_) (a' := ?_) #[true, true, true, true, false, true, false, false, true, true, true, true, false, true, false, false, false] rfl rfl (any_of HT_.out (by kernel_rfl)) (fun _ _ _ h => h) (Or.inl ⟨by rfl, ?_⟩) ?_ ?_
                                  rotate_left
                                  · intro w'
                                    go_simp
                                    with_reducible rfl
                                  rotate_left
                                  · simp only [Act.put, List.setIfInBounds_toArray, List.set_cons_zero, List.set_cons_succ, i64_w, i32_w]
                                    rfl
                                  refine take_ (i := 4) (N := some 72) (v := ?_) (a' := ?_) #[true, true, true, true, true, true, false, false, true, true, true, true, false, true, false, false, false] rfl rfl (take_ofW HT_.out HW_.out (by kernel_rfl)) (fun _ _ _ h => h) (Or.inl ⟨by rfl, ?_⟩) hHeld ?_ ?_
                                  rotate_left
                                  · rintro w' ⟨s0, s1, s2, s3, s4, s5, s6, s7, s8, s9, s10, s11⟩
                                    go_simp
                                    with_reducible rfl
                                  rotate_left
                                  · simp only [Act.put, List.setIfInBounds_toArray, List.set_cons_zero, List.set_cons_succ, i64_w, i32_w]
                                    rfl
                                  refine pure_ (i := 6) (N := some 74) (v := ?_) (a' := ?_) #[true, true, true, true, true, true, true, false, true, true, true, true, false, true, false, false, false] rfl rfl (any_of HT_.out (by kernel_rfl)) (fun _ _ _ h => h) (Or.inl ⟨by rfl, ?_⟩) ?_ ?_
                                  rotate_left
                                  · intro w'
                                    go_simp
                                    with_reducible rfl
                                  rotate_left
                                  · simp only [Act.put, List.setIfInBounds_toArray, List.set_cons_zero, List.set_cons_succ, i64_w, i32_w]
                                    rfl
                                  refine take_ (i := 7) (N := some 75) (v := ?_) (a' := ?_) #[true, true, true, true, true, true, true, true, true, true, true, true, false, true, false, false, false] rfl rfl (take_ofW HT_.out HW_.out (by kernel_rfl)) (fun _ _ _ h => h) (Or.inl ⟨by rfl, ?_⟩) hHeld ?_ ?_
                                  rotate_left
                                  · rintro w' ⟨s0, s1, s2, s3, s4, s5, s6, s7, s8, s9, s10, s11⟩
                                    go_simp
                                    with_reducible rfl
                                  rotate_left
                                  · simp only [Act.put, List.setIfInBounds_toArray, List.set_cons_zero, List.set_cons_succ, i64_w, i32_w]
                                    rfl
                                  refine take_ (i := 12) (N := some 80) (v := ?_) (a' := ?_) #[true, true, true, true, true, true, true, true, true, true, true, true, true, true, false, false, false] rfl rfl (take_ofW HT_.out HW_.out (by kernel_rfl)) (fun _ _ _ h => h) (Or.inl ⟨by rfl, ?_⟩) hHeld ?_ ?_
                                  rotate_left
                                  · rintro w' ⟨s0, s1, s2, s3, s4, s5, s6, s7, s8, s9, s10, s11⟩
                                    go_simp
                                    with_reducible rfl
                                  rotate_left
                                  · simp only [Act.put, List.setIfInBounds_toArray, List.set_cons_zero, List.set_cons_succ, i64_w, i32_w]
                                    rfl
                                  refine pure_ (i := 14) (N := some 82) (v := ?_) (a' := ?_) #[true, true, true, true, true, true, true, true, true, true, true, true, true, true, true, false, false] rfl rfl (any_of HT_.out (by kernel_rfl)) (fun _ _ _ h => h) (Or.inl ⟨by rfl, ?_⟩) ?_ ?_
                                  rotate_left
                                  · intro w'
                                    go_simp
                                    with_reducible rfl
                                  rotate_left
                                  · simp only [Act.put, List.setIfInBounds_toArray, List.set_cons_zero, List.set_cons_succ, i64_w, i32_w]
                                    rfl
                                  refine take_ (i := 15) (N := some 83) (v := ?_) (a' := ?_) #[true, true, true, true, true, true, true, true, true, true, true, true, true, true, true, true, false] rfl rfl (take_ofW HT_.out HW_.out (by kernel_rfl)) (fun _ _ _ h => h) (Or.inl ⟨by rfl, ?_⟩) hHeld ?_ ?_
                                  rotate_left
                                  · rintro w' ⟨s0, s1, s2, s3, s4, s5, s6, s7, s8, s9, s10, s11⟩
                                    go_simp
                                    with_reducible rfl
                                  rotate_left
                                  · simp only [Act.put, List.setIfInBounds_toArray, List.set_cons_zero, List.set_cons_succ, i64_w, i32_w]
                                    rfl
                                  refine pure_ (i := 16) (N := some 84) (v := ?_) (a' := ?_) #[true, true, true, true, true, true, true, true, true, true, true, true, true, true, true, true, true] rfl rfl (any_of HT_.out (by kernel_rfl)) (fun _ _ _ h => h) (Or.inl ⟨by rfl, ?_⟩) ?_ ?_
                                  rotate_left
                                  · intro w'
                                    go_simp
                                    with_reducible rfl
                                  rotate_left
                                  · simp only [Act.put, List.setIfInBounds_toArray, List.set_cons_zero, List.set_cons_succ, i64_w, i32_w]
                                    rfl
                                  refine done_ (done_of HT_.out (by kernel_rfl)) ?_
                                  try go_wp2
                                  go_ret
                                  exact ⟨by first | rfl | (simp [errW_none, errW_some] <;> rfl) | (simp [*, errW_none, errW_some] <;> rfl), by repeat (first | (with_reducible first | exact HB.out | apply below_alloc | apply pw_below_drewN | apply below_drew1) | exact HB.out)⟩
                                · rw [if_neg c21] at H
                                  have c21b0 : (!(((rd_T45 ((rd_T48 l0 x5_1).f0) x6_3).f0) == ((rd_T45 ((rd_T48 l1 x5_1).f0) x6_3).f0)) || (!(((rd_T45 ((rd_T48 l0 x5_1).f0) x6_3).f1) == ((rd_T45 ((rd_T48 l1 x5_1).f0) x6_3).f1)))) = false := by simpa using c21
                                  clear c21
                                  have H' := Aside0.mk H
                                  clear H
                                  have p174 : 0 ≤ (x5_1 : Int) := of_decide_eq_true (by first | (with_reducible assumption) | assumption)
                                  have q174 : x5_1 < (l0.length : Int) := of_decide_eq_true (by first | (with_reducible assumption) | assumption)
                                  obtain ⟨ad174, A174_0, c174_0, A174_3, c174_3, e174, hx174_0, hx174_1, hx174_2, hx174_3, hl174_0, hi174_0, hl174_3, hi174_3⟩ := at_T48 HR0.out x5_1 p174 q174
                                  cases e174
                                  replace hx174_0 := (HB.out.cell (World.block_lt_of_cell? w _ hx174_0)).trans hx174_0
                                  replace hx174_1 := (HB.out.cell (World.block_lt_of_cell? w _ hx174_1)).trans hx174_1
                                  replace hx174_2 := (HB.out.cell (World.block_lt_of_cell? w _ hx174_2)).trans hx174_2
                                  replace hx174_3 := (HB.out.cell (World.block_lt_of_cell? w _ hx174_3)).trans hx174_3
                                  have HR174_0 := Aside0.mk hi174_0
                                  have HC174_0 := Aside0.mk hl174_0
                                  clear hi174_0 hl174_0
                                  have HR174_3 := Aside0.mk hi174_3
                                  have HC174_3 := Aside0.mk hl174_3
                                  clear hi174_3 hl174_3
                                  replace p174 := eq_true p174
                                  replace q174 := eq_true q174
                                  try go_wp2
                                  have n0_ := Aside0.mk (below_drew1 HB.out)
                                  clear HB
                                  have HB := n0_
                                  clear n0_
                                  have p175 : 0 ≤ (x5_1 : Int) := of_decide_eq_true (by first | (with_reducible assumption) | assumption)
                                  have q175 : x5_1 < (l0.length : Int) := of_decide_eq_true (by first | (with_reducible assumption) | assumption)
                                  obtain ⟨ad175, A175_0, c175_0, A175_3, c175_3, e175, hx175_0, hx175_1, hx175_2, hx175_3, hl175_0, hi175_0, hl175_3, hi175_3⟩ := at_T48 HR0.out x5_1 p175 q175
                                  have hw175_3 := hx175_3
                                  have hw175_2 := hx175_2
                                  have hw175_1 := hx175_1
                                  have hw175_0 := hx175_0
                                  obtain rfl : ad174 = ad175 := (by injection e175)
                                  replace hx175_0 := (HB.out.cell (World.block_lt_of_cell? w _ hx175_0)).trans hx175_0
                                  replace hx175_1 := (HB.out.cell (World.block_lt_of_cell? w _ hx175_1)).trans hx175_1
                                  replace hx175_2 := (HB.out.cell (World.block_lt_of_cell? w _ hx175_2)).trans hx175_2
                                  replace hx175_3 := (HB.out.cell (World.block_lt_of_cell? w _ hx175_3)).trans hx175_3
                                  have HR175_0 := Aside0.mk hi175_0
                                  have HC175_0 := Aside0.mk hl175_0
                                  clear hi175_0 hl175_0
                                  have HR175_3 := Aside0.mk hi175_3
                                  have HC175_3 := Aside0.mk hl175_3
                                  clear hi175_3 hl175_3
                                  replace p175 := eq_true p175
                                  replace q175 := eq_true q175
                                  have p176 : 0 ≤ (x6_3 : Int) := of_decide_eq_true (by first | (with_reducible assumption) | assumption)
                                  have q176 : x6_3 < (((rd_T48 l0 x5_1).f0).length : Int) := of_decide_eq_true (by first | (with_reducible assumption) | assumption)
                                  obtain ⟨ad176, e176, hx176_0, hx176_1⟩ := at_T45 HR175_0.out x6_3 p176 q176
                                  have hw176_1 := hx176_1
                                  have hw176_0 := hx176_0
                                  cases e176
                                  replace hx176_0 := (HB.out.cell (World.block_lt_of_cell? w _ hx176_0)).trans hx176_0
                                  replace hx176_1 := (HB.out.cell (World.block_lt_of_cell? w _ hx176_1)).trans hx176_1
                                  replace p176 := eq_true p176
                                  replace q176 := eq_true q176
                                  have p177 : 0 ≤ (x5_1 : Int) := of_decide_eq_true (by first | (with_reducible assumption) | assumption)
                                  have q177 : x5_1 < (l1.length : Int) := of_decide_eq_true (by first | (with_reducible assumption) | assumption)
                                  obtain ⟨ad177, A177_0, c177_0, A177_3, c177_3, e177, hx177_0, hx177_1, hx177_2, hx177_3, hl177_0, hi177_0, hl177_3, hi177_3⟩ := at_T48 HR1.out x5_1 p177 q177
                                  have hw177_3 := hx177_3
                                  have hw177_2 := hx177_2
                                  have hw177_1 := hx177_1
                                  have hw177_0 := hx177_0
                                  cases e177
                                  replace hx177_0 := (HB.out.cell (World.block_lt_of_cell? w _ hx177_0)).trans hx177_0
                                  replace hx177_1 := (HB.out.cell (World.block_lt_of_cell? w _ hx177_1)).trans hx177_1
                                  replace hx177_2 := (HB.out.cell (World.block_lt_of_cell? w _ hx177_2)).trans hx177_2
                                  replace hx177_3 := (HB.out.cell (World.block_lt_of_cell? w _ hx177_3)).trans hx177_3
                                  have HR177_0 := Aside0.mk hi177_0
                                  have HC177_0 := Aside0.mk hl177_0
                                  clear hi177_0 hl177_0
                                  have HR177_3 := Aside0.mk hi177_3
                                  have HC177_3 := Aside0.mk hl177_3
                                  clear hi177_3 hl177_3
                                  replace p177 := eq_true p177
                                  replace q177 := eq_true q177
                                  have p178 : 0 ≤ (x6_3 : Int) := of_decide_eq_true (by first | (with_reducible assumption) | assumption)
                                  have q178 : x6_3 < (((rd_T48 l1 x5_1).f0).length : Int) := of_decide_eq_true (by first | (with_reducible assumption) | assumption)
                                  obtain ⟨ad178, e178, hx178_0, hx178_1⟩ := at_T45 HR177_0.out x6_3 p178 q178
                                  have hw178_1 := hx178_1
                                  have hw178_0 := hx178_0
                                  cases e178
                                  replace hx178_0 := (HB.out.cell (World.block_lt_of_cell? w _ hx178_0)).trans hx178_0
                                  replace hx178_1 := (HB.out.cell (World.block_lt_of_cell? w _ hx178_1)).trans hx178_1
                                  replace p178 := eq_true p178
                                  replace q178 := eq_true q178
                                  refine start_ (n := 17) (S := fun w' => w'.cell? (ad174.add ((x5_1).toNat * 4)) = some (.slice (some ad176) ((rd_T48 l0 x5_1).f0).length c175_0) ∧ w'.cell? ⟨(ad174.add ((x5_1).toNat * 4)).block, (ad174.add ((x5_1).toNat * 4)).off + 1, none⟩ = some (.int .i64 ((rd_T48 l0 x5_1).f1.f0)) ∧ w'.cell? ⟨(ad174.add ((x5_1).toNat * 4)).block, (ad174.add ((x5_1).toNat * 4)).off + 2, none⟩ = some (.int .i64 ((rd_T48 l0 x5_1).f1.f1)) ∧ w'.cell? ⟨(ad174.add ((x5_1).toNat * 4)).block, (ad174.add ((x5_1).toNat * 4)).off + 3, none⟩ = some (.slice A175_3 ((rd_T48 l0 x5_1).f2).length c175_3) ∧ w'.cell? (ad176.add ((x6_3).toNat * 2)) = some (.int .i64 ((rd_T45 ((rd_T48 l0 x5_1).f0) x6_3).f0)) ∧ w'.cell? ⟨(ad176.add ((x6_3).toNat * 2)).block, (ad176.add ((x6_3).toNat * 2)).off + 1, none⟩ = some (.int .i64 ((rd_T45 ((rd_T48 l0 x5_1).f0) x6_3).f1)) ∧ w'.cell? (ad177.add ((x5_1).toNat * 4)) = some (.slice (some ad178) ((rd_T48 l1 x5_1).f0).length c177_0) ∧ w'.cell? ⟨(ad177.add ((x5_1).toNat * 4)).block, (ad177.add ((x5_1).toNat * 4)).off + 1, none⟩ = some (.int .i64 ((rd_T48 l1 x5_1).f1.f0)) ∧ w'.cell? ⟨(ad177.add ((x5_1).toNat * 4)).block, (ad177.add ((x5_1).toNat * 4)).off + 2, none⟩ = some (.int .i64 ((rd_T48 l1 x5_1).f1.f1)) ∧ w'.cell? ⟨(ad177.add ((x5_1).toNat * 4)).block, (ad177.add ((x5_1).toNat * 4)).off + 3, none⟩ = some (.slice A177_3 ((rd_T48 l1 x5_1).f2).length c177_3) ∧ w'.cell? (ad178.add ((x6_3).toNat * 2)) = some (.int .i64 ((rd_T45 ((rd_T48 l1 x5_1).f0) x6_3).f0)) ∧ w'.cell? ⟨(ad178.add ((x6_3).toNat * 2)).block, (ad178.add ((x6_3).toNat * 2)).off + 1, none⟩ = some (.int .i64 ((rd_T45 ((rd_T48 l1 x5_1).f0) x6_3).f1))) (ds := []) #[false, false, false, false, false, false, false, false, false, false, false, false, false, false, false, false, false] (by kernel_rfl) rfl rfl ⟨((HB.out.cell (World.block_lt_of_cell? w _ hw175_0)).trans hw175_0), ((HB.out.cell (World.block_lt_of_cell? w _ hw175_1)).trans hw175_1), ((HB.out.cell (World.block_lt_of_cell? w _ hw175_2)).trans hw175_2), ((HB.out.cell (World.block_lt_of_cell? w _ hw175_3)).trans hw175_3), ((HB.out.cell (World.block_lt_of_cell? w _ hw176_0)).trans hw176_0), ((HB.out.cell (World.block_lt_of_cell? w _ hw176_1)).trans hw176_1), ((HB.out.cell (World.block_lt_of_cell? w _ hw177_0)).trans hw177_0), ((HB.out.cell (World.block_lt_of_cell? w _ hw177_1)).trans hw177_1), ((HB.out.cell (World.block_lt_of_cell? w _ hw177_2)).trans hw177_2), ((HB.out.cell (World.block_lt_of_cell? w _ hw177_3)).trans hw177_3), ((HB.out.cell (World.block_lt_of_cell? w _ hw178_0)).trans hw178_0), ((HB.out.cell (World.block_lt_of_cell? w _ hw178_1)).trans hw178_1)⟩ (fun hHeld => ?_); refine with_tabW sennitref21_Same.tab11 sennitref21_Same.bits11 (fun HT_ HW_ => ?_)
                                  generalize wr.drew = w23 at HB HR175_0 HR175_3 HR177_0 HR177_3 hx175_0 hx175_1 hx175_2 hx175_3 hx176_0 hx176_1 hx177_0 hx177_1 hx177_2 hx177_3 hx178_0 hx178_1 hHeld ⊢
                                  refine pure_ (i := 0) (N := some 68) (v := ?_) (a' := ?_) #[true, false, false, false, false, false, false, false, false, false, false, false, false, false, false, false, false] rfl rfl (any_of HT_.out (by kernel_rfl)) (fun _ _ _ h => h) (Or.inl ⟨by rfl, ?_⟩) ?_ ?_
                                  rotate_left
                                  · intro w'
                                    go_simp
                                    with_reducible rfl
                                  rotate_left
                                  · simp only [Act.put, List.setIfInBounds_toArray, List.set_cons_zero, List.set_cons_succ, i64_w, i32_w]
                                    rfl
                                  refine pure_ (i := 1) (N := some 69) (v := ?_) (a' := ?_) #[true, true, false, false, false, false, false, false, false, false, false, false, false, false, false, false, false] rfl rfl (any_of HT_.out (by kernel_rfl)) (fun _ _ _ h => h) (Or.inl ⟨by rfl, ?_⟩) ?_ ?_
                                  rotate_left
                                  · intro w'
                                    go_simp
                                    with_reducible rfl
                                  rotate_left
                                  · simp only [Act.put, List.setIfInBounds_toArray, List.set_cons_zero, List.set_cons_succ, i64_w, i32_w]
                                    rfl
                                  refine pure_ (i := 2) (N := some 70) (v := ?_) (a' := ?_) #[true, true, true, false, false, false, false, false, false, false, false, false, false, false, false, false, false] rfl rfl (any_of HT_.out (by kernel_rfl)) (fun _ _ _ h => h) (Or.inl ⟨by rfl, ?_⟩) ?_ ?_
                                  rotate_left
                                  · intro w'
                                    go_simp
                                    with_reducible rfl
                                  rotate_left
                                  · simp only [Act.put, List.setIfInBounds_toArray, List.set_cons_zero, List.set_cons_succ, i64_w, i32_w]
                                    rfl
                                  refine pure_ (i := 3) (N := some 71) (v := ?_) (a' := ?_) #[true, true, true, true, false, false, false, false, false, false, false, false, false, false, false, false, false] rfl rfl (any_of HT_.out (by kernel_rfl)) (fun _ _ _ h => h) (Or.inl ⟨by rfl, ?_⟩) ?_ ?_
                                  rotate_left
                                  · intro w'
                                    go_simp
                                    with_reducible rfl
                                  rotate_left
                                  · simp only [Act.put, List.setIfInBounds_toArray, List.set_cons_zero, List.set_cons_succ, i64_w, i32_w]
                                    rfl
                                  refine pure_ (i := 5) (N := some 73) (v := ?_) (a' := ?_) #[true, true, true, true, false, true, false, false, false, false, false, false, false, false, false, false, false] rfl rfl (any_of HT_.out (by kernel_rfl)) (fun _ _ _ h => h) (Or.inl ⟨by rfl, ?_⟩) ?_ ?_
                                  rotate_left
                                  · intro w'
                                    go_simp
                                    with_reducible rfl
                                  rotate_left
                                  · simp only [Act.put, List.setIfInBounds_toArray, List.set_cons_zero, List.set_cons_succ, i64_w, i32_w]
                                    rfl
                                  refine pure_ (i := 8) (N := some 76) (v := ?_) (a' := ?_) #[true, true, true, true, false, true, false, false, true, false, false, false, false, false, false, false, false] rfl rfl (any_of HT_.out (by kernel_rfl)) (fun _ _ _ h => h) (Or.inl ⟨by rfl, ?_⟩) ?_ ?_
                                  rotate_left
                                  · intro w'
                                    go_simp
                                    with_reducible rfl
                                  rotate_left
                                  · simp only [Act.put, List.setIfInBounds_toArray, List.set_cons_zero, List.set_cons_succ, i64_w, i32_w]
                                    rfl
                                  refine pure_ (i := 9) (N := some 77) (v := ?_) (a' := ?_) #[true, true, true, true, false, true, false, false, true, true, false, false, false, false, false, false, false] rfl rfl (any_of HT_.out (by kernel_rfl)) (fun _ _ _ h => h) (Or.inl ⟨by rfl, ?_⟩) ?_ ?_
                                  rotate_left
                                  · intro w'
                                    go_simp
                                    with_reducible rfl
                                  rotate_left
                                  · simp only [Act.put, List.setIfInBounds_toArray, List.set_cons_zero, List.set_cons_succ, i64_w, i32_w]
                                    rfl
                                  refine pure_ (i := 10) (N := some 78) (v := ?_) (a' := ?_) #[true, true, true, true, false, true, false, false, true, true, true, false, false, false, false, false, false] rfl rfl (any_of HT_.out (by kernel_rfl)) (fun _ _ _ h => h) (Or.inl ⟨by rfl, ?_⟩) ?_ ?_
                                  rotate_left
                                  · intro w'
                                    go_simp
                                    with_reducible rfl
                                  rotate_left
                                  · simp only [Act.put, List.setIfInBounds_toArray, List.set_cons_zero, List.set_cons_succ, i64_w, i32_w]
                                    rfl
                                  refine pure_ (i := 11) (N := some 79) (v := ?_) (a' := ?_) #[true, true, true, true, false, true, false, false, true, true, true, true, false, false, false, false, false] rfl rfl (any_of HT_.out (by kernel_rfl)) (fun _ _ _ h => h) (Or.inl ⟨by rfl, ?_⟩) ?_ ?_
                                  rotate_left
                                  · intro w'
                                    go_simp
                                    with_reducible rfl
                                  rotate_left
                                  · simp only [Act.put, List.setIfInBounds_toArray, List.set_cons_zero, List.set_cons_succ, i64_w, i32_w]
                                    rfl
                                  refine pure_ (i := 13) (N := some 81) (v := ?_) (a' := ?_) #[true, true, true, true, false, true, false, false, true, true, true, true, false, true, false, false, false] rfl rfl (any_of HT_.out (by kernel_rfl)) (fun _ _ _ h => h) (Or.inl ⟨by rfl, ?_⟩) ?_ ?_
                                  rotate_left
                                  · intro w'
                                    go_simp
                                    with_reducible rfl
                                  rotate_left
                                  · simp only [Act.put, List.setIfInBounds_toArray, List.set_cons_zero, List.set_cons_succ, i64_w, i32_w]
                                    rfl
                                  refine take_ (i := 4) (N := some 72) (v := ?_) (a' := ?_) #[true, true, true, true, true, true, false, false, true, true, true, true, false, true, false, false, false] rfl rfl (take_ofW HT_.out HW_.out (by kernel_rfl)) (fun _ _ _ h => h) (Or.inl ⟨by rfl, ?_⟩) hHeld ?_ ?_
                                  rotate_left
                                  · rintro w' ⟨s0, s1, s2, s3, s4, s5, s6, s7, s8, s9, s10, s11⟩
                                    go_simp
                                    with_reducible rfl
                                  rotate_left
                                  · simp only [Act.put, List.setIfInBounds_toArray, List.set_cons_zero, List.set_cons_succ, i64_w, i32_w]
                                    rfl
                                  refine pure_ (i := 6) (N := some 74) (v := ?_) (a' := ?_) #[true, true, true, true, true, true, true, false, true, true, true, true, false, true, false, false, false] rfl rfl (any_of HT_.out (by kernel_rfl)) (fun _ _ _ h => h) (Or.inl ⟨by rfl, ?_⟩) ?_ ?_
                                  rotate_left
                                  · intro w'
                                    go_simp
                                    with_reducible rfl
                                  rotate_left
                                  · simp only [Act.put, List.setIfInBounds_toArray, List.set_cons_zero, List.set_cons_succ, i64_w, i32_w]
                                    rfl
                                  refine take_ (i := 7) (N := some 75) (v := ?_) (a' := ?_) #[true, true, true, true, true, true, true, true, true, true, true, true, false, true, false, false, false] rfl rfl (take_ofW HT_.out HW_.out (by kernel_rfl)) (fun _ _ _ h => h) (Or.inl ⟨by rfl, ?_⟩) hHeld ?_ ?_
                                  rotate_left
                                  · rintro w' ⟨s0, s1, s2, s3, s4, s5, s6, s7, s8, s9, s10, s11⟩
                                    go_simp
                                    with_reducible rfl
                                  rotate_left
                                  · simp only [Act.put, List.setIfInBounds_toArray, List.set_cons_zero, List.set_cons_succ, i64_w, i32_w]
                                    rfl
                                  refine take_ (i := 12) (N := some 80) (v := ?_) (a' := ?_) #[true, true, true, true, true, true, true, true, true, true, true, true, true, true, false, false, false] rfl rfl (take_ofW HT_.out HW_.out (by kernel_rfl)) (fun _ _ _ h => h) (Or.inl ⟨by rfl, ?_⟩) hHeld ?_ ?_
                                  rotate_left
                                  · rintro w' ⟨s0, s1, s2, s3, s4, s5, s6, s7, s8, s9, s10, s11⟩
                                    go_simp
                                    with_reducible rfl
                                  rotate_left
                                  · simp only [Act.put, List.setIfInBounds_toArray, List.set_cons_zero, List.set_cons_succ, i64_w, i32_w]
                                    rfl
                                  refine pure_ (i := 14) (N := some 82) (v := ?_) (a' := ?_) #[true, true, true, true, true, true, true, true, true, true, true, true, true, true, true, false, false] rfl rfl (any_of HT_.out (by kernel_rfl)) (fun _ _ _ h => h) (Or.inl ⟨by rfl, ?_⟩) ?_ ?_
                                  rotate_left
                                  · intro w'
                                    go_simp
                                    with_reducible rfl
                                  rotate_left
                                  · simp only [Act.put, List.setIfInBounds_toArray, List.set_cons_zero, List.set_cons_succ, i64_w, i32_w]
                                    rfl
                                  refine take_ (i := 15) (N := some 83) (v := ?_) (a' := ?_) #[true, true, true, true, true, true, true, true, true, true, true, true, true, true, true, true, false] rfl rfl (take_ofW HT_.out HW_.out (by kernel_rfl)) (fun _ _ _ h => h) (Or.inl ⟨by rfl, ?_⟩) hHeld ?_ ?_
                                  rotate_left
                                  · rintro w' ⟨s0, s1, s2, s3, s4, s5, s6, s7, s8, s9, s10, s11⟩
                                    go_simp
                                    with_reducible rfl
                                  rotate_left
                                  · simp only [Act.put, List.setIfInBounds_toArray, List.set_cons_zero, List.set_cons_succ, i64_w, i32_w]
                                    rfl
                                  refine pure_ (i := 16) (N := some 84) (v := ?_) (a' := ?_) #[true, true, true, true, true, true, true, true, true, true, true, true, true, true, true, true, true] rfl rfl (any_of HT_.out (by kernel_rfl)) (fun _ _ _ h => h) (Or.inl ⟨by rfl, ?_⟩) ?_ ?_
                                  rotate_left
                                  · intro w'
                                    go_simp
                                    with_reducible rfl
                                  rotate_left
                                  · simp only [Act.put, List.setIfInBounds_toArray, List.set_cons_zero, List.set_cons_succ, i64_w, i32_w]
                                    rfl
                                  refine done_ (done_of HT_.out (by kernel_rfl)) ?_
                                  try go_wp2
                                  go_roundg k3
                                  case measure => have := HK1.out; have := HJ4.out; have := HK3.out; omega
                                  case rel => exact ⟨(wrap64 (x6_3 + 1)), (by first | rfl | (simp; done) | (simp [*]; done)), H', ⟨by have := HK1.out; have := HJ4.out; have := HK3.out; omega⟩, ⟨by repeat (first | (with_reducible first | exact HB.out | apply below_alloc | apply pw_below_drewN | apply below_drew1) | exact HB.out)⟩⟩
                              · rw [if_neg c20] at H
                                exact absurd H (by simp)
                            · rw [if_neg c19] at H
                              exact absurd H (by simp)
                          · rw [if_neg c18] at H
                            exact absurd H (by simp)
                        · rw [if_neg c17] at H
                          have c17b0 : decide (x6_3 < (((rd_T48 l0 x5_1).f0).length : Int)) = false := decide_eq_false c17
                          clear c17
                          have H' := Aside0.mk H
                          clear H
                          have p174 : 0 ≤ (x5_1 : Int) := of_decide_eq_true (by first | (with_reducible assumption) | assumption)
                          have q174 : x5_1 < (l0.length : Int) := of_decide_eq_true (by first | (with_reducible assumption) | assumption)
                          obtain ⟨ad174, A174_0, c174_0, A174_3, c174_3, e174, hx174_0, hx174_1, hx174_2, hx174_3, hl174_0, hi174_0, hl174_3, hi174_3⟩ := at_T48 HR0.out x5_1 p174 q174
                          cases e174
                          replace hx174_0 := (HB.out.cell (World.block_lt_of_cell? w _ hx174_0)).trans hx174_0
                          replace hx174_1 := (HB.out.cell (World.block_lt_of_cell? w _ hx174_1)).trans hx174_1
                          replace hx174_2 := (HB.out.cell (World.block_lt_of_cell? w _ hx174_2)).trans hx174_2
                          replace hx174_3 := (HB.out.cell (World.block_lt_of_cell? w _ hx174_3)).trans hx174_3
                          have HR174_0 := Aside0.mk hi174_0
                          have HC174_0 := Aside0.mk hl174_0
                          clear hi174_0 hl174_0
                          have HR174_3 := Aside0.mk hi174_3
                          have HC174_3 := Aside0.mk hl174_3
                          clear hi174_3 hl174_3
                          replace p174 := eq_true p174
                          replace q174 := eq_true q174
                          go_wp2
                          go_roundg k3
                          case measure => have := HK1.out; have := HJ4.out; have := HK3.out; omega
                          case rel => exact ⟨(wrap64 (x5_1 + 1)), (by first | rfl | (simp; done) | (simp [*]; done)), H', ⟨by have := HK1.out; have := HJ4.out; have := HK3.out; omega⟩, ⟨by repeat (first | (with_reducible first | exact HB.out | apply below_alloc | apply pw_below_drewN | apply below_drew1) | exact HB.out)⟩⟩
                      · rw [if_neg c16] at H
                        exact absurd H (by simp)
                    · rw [if_neg c15] at H
                      exact absurd H (by simp)
        · rw [if_neg c4] at H
          have c4b0 : decide (x5_1 < (l0.length : Int)) = false := decide_eq_false c4
          clear c4
          obtain rfl := Option.some.inj H
          go_wp2
          go_ret
          exact ⟨by first | rfl | (simp [errW_none, errW_some] <;> rfl) | (simp [*, errW_none, errW_some] <;> rfl), by repeat (first | (with_reducible first | exact HB.out | apply below_alloc | apply pw_below_drewN | apply below_drew1) | exact HB.out)⟩
  · rw [if_neg c3] at H
    have c3b0 : ((l0.length : Int) == (l1.length : Int)) = false := beq_eq_false_iff_ne.mpr c3
    have c3b1 : ((l0.length : Int) != (l1.length : Int)) = true := bne_iff_ne.mpr c3
    have c3b2 : (l0.length == l1.length) = false := by first | simpa using c3 | (simp at c3 ⊢; omega)
    obtain rfl := Option.some.inj H
    go_enter Tryd.func29, Tryd.ntmps29
    go_wp2
    go_ret
    exact ⟨by first | rfl | (simp [errW_none, errW_some] <;> rfl) | (simp [*, errW_none, errW_some] <;> rfl), by repeat (first | (with_reducible first | exact HB.out | apply below_alloc | apply pw_below_drewN | apply below_drew1) | exact HB.out)⟩

end Go.Proofs.YthcnfflhejogfaaDoor.X
-- part XKit
namespace Go.Proofs.YthcnfflhejogfaaDoor.X
open Go.RowKit Go.Proofs.YthcnfflhejogfaaDoorW.PrintWords Go.Proofs.YthcnfflhejogfaaDoorW.PrintLast Go.Proofs.YthcnfflhejogfaaDoorW.PrintMore
set_option linter.unusedVariables false
set_option linter.unusedSimpArgs false
/-- A step of a call that keeps the old: as seen from the law's world. -/
theorem far_ {W w w' : World} (h : Below W.heap.size W w) (hb : Below w.heap.size w w') : Below W.heap.size W w' := h.trans (hb.mono h.size)
theorem getD_get {α : Type} {d : α} {l : List α} {i : Nat} (h : i < l.length) : l.getD i d = l[i] := by simp [h]
end Go.Proofs.YthcnfflhejogfaaDoor.X
-- part XBlk
namespace Go.Proofs.YthcnfflhejogfaaDoor.X
open Go.RowKit Go.Proofs.YthcnfflhejogfaaDoorW.PrintWords Go.Proofs.YthcnfflhejogfaaDoorW.PrintLast Go.Proofs.YthcnfflhejogfaaDoorW.PrintMore
set_option linter.unusedVariables false
set_option linter.unusedSimpArgs false
theorem blkNe {W : World} {a b : Nat} {cs cs' : Array Value} {t t' : TypeId} (h : W.heap[a]? = some (.cells cs t (0, 0))) (k : W.heap[b]? = some (.cells cs' t' (0, 0))) (ht : t ≠ t') : a ≠ b := by
  rintro rfl
  rw [h] at k
  injection k with k
  injection k with _ e _
  exact ht e
theorem setKeep {W : World} {b g j : Nat} {o : Obj} (h : W.heap[b]? = some o) (hne : b ≠ g) (v : Value) : (W.setCell ⟨g, j, none⟩ v).heap[b]? = some o := (heap_set_other hne v).trans h
theorem farKeep {W W' : World} {k : Nat} {o : Obj} (h : W.heap[k]? = some o) (hb : Below W.heap.size W W') : W'.heap[k]? = some o := (hb.block k (Array.getElem?_eq_some_iff.1 h).1).trans h
theorem newKeep {W : World} {k : Nat} {o : Obj} (h : W.heap[k]? = some o) (o' : Obj) : (W.alloc o').heap[k]? = some o := (heap_alloc_old _ _ (Array.getElem?_eq_some_iff.1 h).1).trans h
theorem newBelow (W : World) (o : Obj) : Below W.heap.size W (W.alloc o) := (Below.refl _ W).alloc (Nat.le_refl _) o
end Go.Proofs.YthcnfflhejogfaaDoor.X
-- part XGives
namespace Go.Proofs.YthcnfflhejogfaaDoor.X
open Go.RowKit Go.Proofs.YthcnfflhejogfaaDoorW.PrintWords Go.Proofs.YthcnfflhejogfaaDoorW.PrintLast Go.Proofs.YthcnfflhejogfaaDoorW.PrintMore
set_option linter.unusedVariables false
set_option linter.unusedSimpArgs false
section
variable {α β : Type} {f g : Nat → Option α} {c : Nat → Option β} {r r' : α} {t : β}
/-- With rounds enough it tells r. -/
def Gives (f : Nat → Option α) (r : α) : Prop := ∃ K, ∀ k, K ≤ k → f k = some r
theorem Gives.pure (h : ∀ k, f k = some r) : Gives f r := ⟨0, fun k _ => h k⟩
theorem Gives.of (h : ∀ k, f (k + 1) = some r) : Gives f r := ⟨1, fun k hk => by obtain ⟨j, rfl⟩ : ∃ j, k = j + 1 := ⟨k - 1, by omega⟩; exact h j⟩
theorem Gives.step (hg : Gives g r) (h : ∀ k, f (k + 1) = g k) : Gives f r := by
  obtain ⟨K, hK⟩ := hg
  exact ⟨K + 1, fun k hk => by obtain ⟨j, rfl⟩ : ∃ j, k = j + 1 := ⟨k - 1, by omega⟩; rw [h j]; exact hK j (by omega)⟩
theorem Gives.same (hg : Gives g r) (h : ∀ k, f k = g k) : Gives f r := by
  obtain ⟨K, hK⟩ := hg
  exact ⟨K, fun k hk => by rw [h k]; exact hK k hk⟩
theorem Gives.call (hc : Gives c t) (hg : Gives g r) (h : ∀ k, c k = some t → f (k + 1) = g k) : Gives f r := by
  obtain ⟨K, hK⟩ := hg
  obtain ⟨C, hC⟩ := hc
  exact ⟨K + C + 1, fun k hk => by obtain ⟨j, rfl⟩ : ∃ j, k = j + 1 := ⟨k - 1, by omega⟩; rw [h j (hC j (by omega))]; exact hK j (by omega)⟩
theorem Gives.call0 (hc : Gives c t) (hg : Gives g r) (h : ∀ k, c k = some t → f k = g k) : Gives f r := by
  obtain ⟨K, hK⟩ := hg
  obtain ⟨C, hC⟩ := hc
  exact ⟨K + C, fun k hk => by rw [h k (hC k (by omega))]; exact hK k (by omega)⟩
theorem Gives.last (hc : Gives c t) (h : ∀ k, c k = some t → f (k + 1) = some r) : Gives f r := by
  obtain ⟨C, hC⟩ := hc
  exact ⟨C + 1, fun k hk => by obtain ⟨j, rfl⟩ : ∃ j, k = j + 1 := ⟨k - 1, by omega⟩; exact h j (hC j (by omega))⟩
theorem Gives.last0 (hc : Gives c t) (h : ∀ k, c k = some t → f k = some r) : Gives f r := by
  obtain ⟨C, hC⟩ := hc
  exact ⟨C, fun k hk => h k (hC k hk)⟩
theorem Gives.eq (h : Gives f r) (e : r = r') : Gives f r' := e ▸ h
end
theorem gw {x : Int} (h : -9223372036854775808 ≤ x) (h2 : x < 9223372036854775808) : wrap64 x = x := by
  unfold wrap64
  omega
theorem gw1 {i : Nat} (h : i < 4611686018427387904) : wrap64 ((i : Int) + 1) = ((i + 1 : Nat) : Int) := by
  rw [gw (by omega) (by omega)]; omega
theorem getN {α : Type} {d : α} {L : List α} {i : Nat} (h : i < L.length) : L.getD (i : Int).toNat d = L[i] := by
  simp [h]
theorem rdOfN {α : Type} {d : α} {L : List α} {i : Nat} (h : i < L.length) : rdOf d L (i : Int) = L[i] := by
  simp [rdOf, h]
theorem btN {s : ByteArray} {i : Nat} (h : i < s.size) : bt s (i : Int) = ((s.data.toList[i]'(by simpa using h)).toNat : Int) := by
  simp [bt, h]; rfl
theorem strEq {a b : ByteArray} : a.toList = b.toList ↔ a = b := by
  constructor
  · intro h
    rw [Lib.toList_data, Lib.toList_data] at h
    exact ByteArray.ext (Array.toList_inj.1 h)
  · rintro rfl; rfl
theorem strBeq {a b : ByteArray} : (a.toList == b.toList) = decide (a = b) := by
  by_cases h : a = b
  · subst h; simp
  · rw [decide_eq_false h, beq_eq_false_iff_ne]
    exact fun e => h (strEq.1 e)
theorem sizeLen (s : ByteArray) : s.size = s.data.toList.length := by simp
theorem dropCons {α : Type} {l : List α} {i : Nat} (h : i < l.length) : l.drop i = l[i] :: l.drop (i + 1) := List.drop_eq_getElem_cons h
end Go.Proofs.YthcnfflhejogfaaDoor.X
-- part XHp1
namespace Go.Proofs.YthcnfflhejogfaaDoor.X.HkP
set_option linter.unusedVariables false
set_option linter.unusedSimpArgs false
variable {α : Type} (m : α → Bool)
/-- Row i is there, and has a mark. -/
def MarkAt (rows : List α) (i : Nat) : Prop := ∃ h : i < rows.length, m rows[i] = true
def groupEnd (rows : List α) (i : Nat) : Nat := i + ((rows.drop i).takeWhile m).length
theorem groupEnd_step {rows : List α} {i : Nat} (h : i < rows.length) (hm : m rows[i] = true) : groupEnd m rows i = groupEnd m rows (i + 1) := by
  rw [groupEnd, groupEnd, dropCons h, List.takeWhile_cons, if_pos hm, List.length_cons]; omega
theorem groupEnd_stop {rows : List α} {i : Nat} (h : ¬ MarkAt m rows i) : groupEnd m rows i = i := by
  by_cases hi : i < rows.length
  · have : m rows[i] = false := by
      cases e : m rows[i] with
      | false => rfl
      | true => exact (h ⟨hi, e⟩).elim
    rw [groupEnd, dropCons hi, List.takeWhile_cons, if_neg (by rw [this]; decide)]; rfl
  · rw [groupEnd, List.drop_of_length_le (by omega)]; rfl
/-- The group's end, from within. -/
theorem groupEnd_spec (rows : List α) (i : Nat) (h : i ≤ rows.length) : i ≤ groupEnd m rows i ∧ groupEnd m rows i ≤ rows.length ∧ (∀ j, i ≤ j → j < groupEnd m rows i → MarkAt m rows j) ∧ ¬ MarkAt m rows (groupEnd m rows i) := by
  induction hn : rows.length - i generalizing i with
  | zero =>
    have : ¬ MarkAt m rows i := fun ⟨h1, _⟩ => by omega
    rw [groupEnd_stop m this]
    exact ⟨Nat.le_refl _, h, fun j a b => by omega, this⟩
  | succ n ih =>
    by_cases hm : MarkAt m rows i
    · obtain ⟨hi, hm1⟩ := hm
      obtain ⟨a, b, c, d⟩ := ih (i + 1) (by omega) (by omega)
      rw [groupEnd_step m hi hm1]
      refine ⟨by omega, b, fun j x y => ?_, d⟩
      by_cases e : j = i
      · subst e; exact ⟨hi, hm1⟩
      · exact c j (by omega) y
    · rw [groupEnd_stop m hm]
      exact ⟨Nat.le_refl _, h, fun j a b => by omega, hm⟩
theorem groupEnd_of {rows : List α} {i t : Nat} (h : i ≤ t) (hm : ∀ j, i ≤ j → j < t → MarkAt m rows j) (ht : ¬ MarkAt m rows t) (hl : t ≤ rows.length) : groupEnd m rows i = t := by
  obtain ⟨a, b, c, d⟩ := groupEnd_spec m rows i (by omega)
  by_cases e : groupEnd m rows i < t
  · exact (d (hm _ a e)).elim
  · by_cases e2 : t < groupEnd m rows i
    · exact (ht (c _ h e2)).elim
    · omega
def groupsGo (rows : List α) : Nat → Nat → List (Nat × Nat)
  | 0, _ => []
  | r + 1, i => if h : i < rows.length then (if m rows[i] = true then (i, groupEnd m rows i) :: groupsGo rows r (groupEnd m rows i) else groupsGo rows r (i + 1)) else []
theorem notPrev {rows : List α} {i : Nat} (h : ¬ MarkAt m rows i) : ∀ j, j + 1 = i + 1 → ¬ MarkAt m rows j := fun j e => by
  obtain rfl : j = i := by omega
  exact h
/-- A run of rows with marks, as long as can be. -/
def IsGroup (rows : List α) (f t : Nat) : Prop := f < t ∧ t ≤ rows.length ∧ (∀ j, f ≤ j → j < t → MarkAt m rows j) ∧ (∀ j, j + 1 = f → ¬ MarkAt m rows j) ∧ ¬ MarkAt m rows t
theorem mem_groupsGo {rows : List α} {f t : Nat} : ∀ (r i : Nat), rows.length < r + i → (∀ j, j + 1 = i → ¬ MarkAt m rows j) → ((f, t) ∈ groupsGo m rows r i ↔ i ≤ f ∧ IsGroup m rows f t)
  | 0, i, hr, _ => by
    rw [groupsGo]
    constructor
    · intro h; cases h
    · rintro ⟨h1, h2, h3, _⟩; omega
  | r + 1, i, hr, hp => by
    rw [groupsGo]
    by_cases hi : i < rows.length
    · rw [dif_pos hi]
      by_cases hm : m rows[i] = true
      · obtain ⟨a, b, c, d⟩ := groupEnd_spec m rows i (by omega)
        have hlt : i < groupEnd m rows i := by
          rcases Nat.lt_or_ge i (groupEnd m rows i) with h | h
          · exact h
          · have : groupEnd m rows i = i := by omega
            rw [this] at d
            exact (d ⟨hi, hm⟩).elim
        have hM : MarkAt m rows i := ⟨hi, hm⟩
        rw [if_pos hm]
        by_cases hge : groupEnd m rows i < rows.length
        · obtain ⟨r, rfl⟩ : ∃ q, r = q + 1 := ⟨r - 1, by omega⟩
          have hnm : ¬ m rows[groupEnd m rows i] = true := fun e => d ⟨hge, e⟩
          have e2 : groupsGo m rows (r + 1) (groupEnd m rows i) = groupsGo m rows r (groupEnd m rows i + 1) := by
            rw [groupsGo, dif_pos hge, if_neg hnm]
          rw [e2, List.mem_cons, mem_groupsGo r _ (by omega) (notPrev m d)]
          constructor
          · rintro (h | ⟨h1, h2⟩)
            · cases h; exact ⟨Nat.le_refl _, hlt, b, c, hp, d⟩
            · exact ⟨by omega, h2⟩
          · rintro ⟨h1, h2⟩
            obtain ⟨g1, g2, g3, g4, g5⟩ := h2
            by_cases e : f = i
            · subst e
              left
              rw [groupEnd_of m (by omega) g3 g5 g2]
            · right
              refine ⟨?_, g1, g2, g3, g4, g5⟩
              rcases Nat.lt_or_ge (groupEnd m rows i) f with h | h
              · exact h
              · rcases Nat.lt_or_ge f (groupEnd m rows i) with h3 | h3
                · exact (g4 (f - 1) (by omega) (c (f - 1) (by omega) (by omega))).elim
                · have : f = groupEnd m rows i := by omega
                  subst this
                  exact (d (g3 _ (Nat.le_refl _) g1)).elim
        · have e2 : groupsGo m rows r (groupEnd m rows i) = [] := by
            cases r with
            | zero => rfl
            | succ r => rw [groupsGo, dif_neg hge]
          rw [e2, List.mem_cons]
          constructor
          · rintro (h | h)
            · cases h; exact ⟨Nat.le_refl _, hlt, b, c, hp, d⟩
            · cases h
          · rintro ⟨h1, g1, g2, g3, g4, g5⟩
            by_cases e : f = i
            · subst e
              left
              rw [groupEnd_of m (by omega) g3 g5 g2]
            · exact (g4 (f - 1) (by omega) (c (f - 1) (by omega) (by omega))).elim
      · rw [if_neg hm, mem_groupsGo r _ (by omega) (notPrev m (fun ⟨_, e⟩ => hm e))]
        constructor
        · rintro ⟨h1, h2⟩; exact ⟨by omega, h2⟩
        · rintro ⟨h1, h2⟩
          refine ⟨?_, h2⟩
          rcases Nat.lt_or_ge i f with h | h
          · omega
          · obtain rfl : f = i := by omega
            obtain ⟨_, e⟩ := h2.2.2.1 f (Nat.le_refl _) h2.1
            exact (hm e).elim
    · rw [dif_neg hi]
      constructor
      · intro h; cases h
      · rintro ⟨h1, h2, h3, _⟩; omega

/-- Is there a mark at a place? -/
def mk (rows : List α) (i : Nat) : Bool := if h : i < rows.length then m rows[i] else false
theorem mk_iff {rows : List α} {i : Nat} : mk m rows i = true ↔ MarkAt m rows i := by
  unfold mk
  split
  · rename_i h; exact ⟨fun e => ⟨h, e⟩, fun ⟨_, e⟩ => e⟩
  · rename_i h; exact ⟨fun e => (by cases e), fun ⟨h2, _⟩ => (h h2).elim⟩
theorem mk_at {rows : List α} {i : Nat} (h : i < rows.length) : mk m rows i = m rows[i] := dif_pos h
theorem mk_no {rows : List α} {i : Nat} : mk m rows i = false ↔ ¬ MarkAt m rows i := by
  rw [← mk_iff m]; cases mk m rows i <;> simp
/-- Where the marks that end ahead of i begin. -/
def groupBegin (rows : List α) : Nat → Nat
  | 0 => 0
  | i + 1 => if mk m rows i = true then groupBegin rows i else i + 1
theorem groupBegin_spec (rows : List α) : ∀ i, groupBegin m rows i ≤ i ∧ (∀ j, groupBegin m rows i ≤ j → j < i → MarkAt m rows j) ∧ (∀ j, j + 1 = groupBegin m rows i → ¬ MarkAt m rows j)
  | 0 => ⟨Nat.le_refl _, fun j _ h => by omega, fun j h => by rw [groupBegin] at h; omega⟩
  | i + 1 => by
    obtain ⟨a, b, c⟩ := groupBegin_spec rows i
    rw [groupBegin]
    split
    · rename_i h
      refine ⟨by omega, fun j h1 h2 => ?_, c⟩
      by_cases e : j = i
      · subst e; exact (mk_iff m).1 h
      · exact b j h1 (by omega)
    · rename_i h
      refine ⟨Nat.le_refl _, fun j h1 h2 => by omega, fun j e => ?_⟩
      obtain rfl : j = i := by omega
      exact fun h2 => h ((mk_iff m).2 h2)
/-- Behind the last mark ahead of i (0: there is none). -/
def lastM (rows : List α) : Nat → Nat
  | 0 => 0
  | i + 1 => if mk m rows i = true then i + 1 else lastM rows i
theorem lastM_spec (rows : List α) : ∀ i, lastM m rows i ≤ i ∧ (∀ j, j + 1 = lastM m rows i → MarkAt m rows j) ∧ (∀ j, lastM m rows i ≤ j → j < i → ¬ MarkAt m rows j)
  | 0 => ⟨Nat.le_refl _, fun j h => by rw [lastM] at h; omega, fun j _ h => by omega⟩
  | i + 1 => by
    obtain ⟨a, b, c⟩ := lastM_spec rows i
    rw [lastM]
    split
    · rename_i h
      refine ⟨Nat.le_refl _, fun j e => ?_, fun j h1 h2 => by omega⟩
      obtain rfl : j = i := by omega
      exact (mk_iff m).1 h
    · rename_i h
      refine ⟨by omega, b, fun j h1 h2 => ?_⟩
      by_cases e : j = i
      · subst e; exact fun h3 => h ((mk_iff m).2 h3)
      · exact c j h1 (by omega)
/-- The next mark from i on (or the rows' length). -/
def nextM (rows : List α) (i : Nat) : Nat := groupEnd (fun x => !m x) rows i
theorem nextM_spec (rows : List α) (i : Nat) (h : i ≤ rows.length) : i ≤ nextM m rows i ∧ nextM m rows i ≤ rows.length ∧ (∀ j, i ≤ j → j < nextM m rows i → ¬ MarkAt m rows j) ∧ (nextM m rows i < rows.length → MarkAt m rows (nextM m rows i)) := by
  obtain ⟨a, b, c, d⟩ := groupEnd_spec (fun x => !m x) rows i h
  refine ⟨a, b, fun j h1 h2 ⟨_, e⟩ => ?_, fun hlt => ⟨hlt, ?_⟩⟩
  · obtain ⟨_, e2⟩ := c j h1 h2
    simp only [e] at e2
    cases e2
  · cases e : m rows[nextM m rows i] with
    | true => rfl
    | false => exact (d ⟨hlt, by simp only [Bool.not_eq_true']; exact e⟩).elim
theorem IsGroup.uniq {rows : List α} {f t f' t' i : Nat} (h : IsGroup m rows f t) (h' : IsGroup m rows f' t') (a : f ≤ i) (b : i < t) (a' : f' ≤ i) (b' : i < t') : f = f' ∧ t = t' := by
  obtain ⟨h1, h2, h3, h4, h5⟩ := h
  obtain ⟨k1, k2, k3, k4, k5⟩ := h'
  constructor
  · rcases Nat.lt_trichotomy f f' with e | e | e
    · exact (k4 (f' - 1) (by omega) (h3 _ (by omega) (by omega))).elim
    · exact e
    · exact (h4 (f - 1) (by omega) (k3 _ (by omega) (by omega))).elim
  · rcases Nat.lt_trichotomy t t' with e | e | e
    · exact (h5 (k3 t (by omega) e)).elim
    · exact e
    · exact (k5 (h3 t' (by omega) e)).elim
/-- The group that a marked row is in. -/
theorem isGroup_at {rows : List α} {i : Nat} (h : MarkAt m rows i) : IsGroup m rows (groupBegin m rows i) (groupEnd m rows i) ∧ groupBegin m rows i ≤ i ∧ i < groupEnd m rows i := by
  obtain ⟨hi, hm⟩ := h
  obtain ⟨a, b, c⟩ := groupBegin_spec m rows i
  obtain ⟨d, e, f, g⟩ := groupEnd_spec m rows i (by omega)
  have hlt : i < groupEnd m rows i := by
    rcases Nat.lt_or_ge i (groupEnd m rows i) with h | h
    · exact h
    · have : groupEnd m rows i = i := by omega
      rw [this] at g
      exact (g ⟨hi, hm⟩).elim
  refine ⟨⟨by omega, e, fun j h1 h2 => ?_, c, g⟩, a, hlt⟩
  rcases Nat.lt_or_ge j i with h | h
  · exact b j h1 h
  · exact f j h h2
variable (keep : Nat → Nat → Bool)
/-- Does a group show a row? -/
def Inside (rows : List α) (x : Nat) (f t i : Nat) : Prop := (f ≤ i ∧ i < t) ∨ (i < f ∧ f ≤ i + x ∧ ∀ j, i ≤ j → j < f → ¬ MarkAt m rows j) ∨ (t ≤ i ∧ i < rows.length ∧ i < t + x ∧ ∀ j, t ≤ j → j ≤ i → ¬ MarkAt m rows j)
def keptR (rows : List α) (i : Nat) : Bool := mk m rows i && keep (groupBegin m rows i) (groupEnd m rows i)
/-- The document's answer: is a row shown? -/
def shownR (rows : List α) (x : Nat) (i : Nat) : Bool :=
  if mk m rows i = true then keptR m keep rows i
  else (decide (0 < lastM m rows i) && (decide (i + 1 ≤ lastM m rows i + x) && keptR m keep rows (lastM m rows i - 1))) || (decide (nextM m rows (i + 1) < rows.length) && (decide (nextM m rows (i + 1) ≤ i + x) && keptR m keep rows (nextM m rows (i + 1))))
theorem keptR_iff {rows : List α} {i : Nat} : keptR m keep rows i = true ↔ ∃ f t, IsGroup m rows f t ∧ f ≤ i ∧ i < t ∧ keep f t = true := by
  rw [keptR, Bool.and_eq_true, mk_iff]
  constructor
  · rintro ⟨h1, h2⟩
    obtain ⟨a, b, c⟩ := isGroup_at m h1
    exact ⟨_, _, a, b, c, h2⟩
  · rintro ⟨f, t, h, a, b, k⟩
    have hm := h.2.2.1 i a b
    obtain ⟨a', b', c'⟩ := isGroup_at m hm
    obtain ⟨e1, e2⟩ := IsGroup.uniq m h a' a b b' c'
    exact ⟨hm, by rw [← e1, ← e2]; exact k⟩
/-- A row is shown, just if a group that is kept shows it. -/
theorem shownR_iff {rows : List α} {x i : Nat} (hi : i < rows.length) : shownR m keep rows x i = true ↔ ∃ f t, IsGroup m rows f t ∧ keep f t = true ∧ Inside m rows x f t i := by
  rw [shownR]
  split
  · rename_i hm
    rw [mk_iff] at hm
    rw [keptR_iff]
    constructor
    · rintro ⟨f, t, h, a, b, k⟩; exact ⟨f, t, h, k, .inl ⟨a, b⟩⟩
    · rintro ⟨f, t, h, k, ⟨a, b⟩ | ⟨a, _, b⟩ | ⟨a, _, _, b⟩⟩
      · exact ⟨f, t, h, a, b, k⟩
      · exact (b i (Nat.le_refl _) a hm).elim
      · exact (b i a (Nat.le_refl _) hm).elim
  · rename_i hm
    rw [mk_iff] at hm
    obtain ⟨l1, l2, l3⟩ := lastM_spec m rows i
    obtain ⟨n1, n2, n3, n4⟩ := nextM_spec m rows (i + 1) hi
    have n3' : ∀ j, i ≤ j → j < nextM m rows (i + 1) → ¬ MarkAt m rows j := fun j h1 h2 => by
      by_cases e : j = i
      · subst e; exact hm
      · exact n3 j (by omega) h2
    rw [Bool.or_eq_true, Bool.and_eq_true, Bool.and_eq_true, Bool.and_eq_true, Bool.and_eq_true, decide_eq_true_eq, decide_eq_true_eq, decide_eq_true_eq, decide_eq_true_eq, keptR_iff, keptR_iff]
    constructor
    · rintro (⟨h0, h1, f, t, h, a, b, k⟩ | ⟨h0, h1, f, t, h, a, b, k⟩)
      · have ht : t = lastM m rows i := by
          rcases Nat.lt_or_ge (lastM m rows i) t with e | e
          · by_cases e2 : lastM m rows i = i
            · exact (hm (h.2.2.1 i (by omega) (by omega))).elim
            · exact (l3 _ (Nat.le_refl _) (by omega) (h.2.2.1 _ (by omega) e)).elim
          · omega
        refine ⟨f, t, h, k, .inr (.inr ⟨by omega, hi, by omega, fun j h2 h3 => ?_⟩)⟩
        by_cases e : j = i
        · subst e; exact hm
        · exact l3 j (by omega) (by omega)
      · have hf : f = nextM m rows (i + 1) := by
          rcases Nat.lt_or_ge f (nextM m rows (i + 1)) with e | e
          · exact (n3' (nextM m rows (i + 1) - 1) (by omega) (by omega) (h.2.2.1 _ (by omega) (by omega))).elim
          · omega
        exact ⟨f, t, h, k, .inr (.inl ⟨by omega, by omega, fun j h2 h3 => n3' j h2 (by omega)⟩)⟩
    · rintro ⟨f, t, h, k, ⟨a, b⟩ | ⟨a, b, c⟩ | ⟨a, _, b, c⟩⟩
      · exact (hm (h.2.2.1 i a b)).elim
      · right
        have hf : nextM m rows (i + 1) = f := by
          have hmf := h.2.2.1 f (Nat.le_refl _) h.1
          rcases Nat.lt_trichotomy (nextM m rows (i + 1)) f with e | e | e
          · exact (c _ (by omega) e (n4 (by have := h.1; have := h.2.1; omega))).elim
          · exact e
          · exact (n3 f (by omega) e hmf).elim
        rw [hf]
        exact ⟨by have := h.1; have := h.2.1; omega, by omega, f, t, h, Nat.le_refl _, h.1, k⟩
      · left
        have ht : lastM m rows i = t := by
          have hmt := h.2.2.1 (t - 1) (by have := h.1; omega) (by have := h.1; omega)
          have h1 := h.1
          rcases Nat.lt_trichotomy (lastM m rows i) t with e | e | e
          · exact (l3 (t - 1) (by omega) (by omega) hmt).elim
          · exact e
          · exact (c (lastM m rows i - 1) (by omega) (by omega) (l2 _ (by omega))).elim
        rw [ht]
        have h1 := h.1
        exact ⟨by omega, by omega, f, t, h, by omega, by omega, k⟩
end Go.Proofs.YthcnfflhejogfaaDoor.X.HkP
-- part XHr1
namespace Go.Proofs.YthcnfflhejogfaaDoor.X
open Go.RowKit Go.Proofs.YthcnfflhejogfaaDoorW.PrintWords Go.Proofs.YthcnfflhejogfaaDoorW.PrintLast Go.Proofs.YthcnfflhejogfaaDoorW.PrintMore
set_option linter.unusedVariables false
set_option linter.unusedSimpArgs false
abbrev RowH := S57
/-- Has a row a mark? -/
def mrkB (x : RowH) : Bool := x.f0.data.toList.any (· != 32)
/-- No row is too long. -/
def Low (rows : List RowH) : Prop := ∀ x ∈ rows, x.f0.size ≤ 1000000
theorem btIs {s : ByteArray} {i : Nat} (h : i < s.size) (c : UInt8) : bt s (i : Int) = (c.toNat : Int) ↔ s.data.toList[i]'(by simpa using h) = c := by
  rw [btN h]
  constructor
  · intro e; exact UInt8.toNat_inj.1 (by omega)
  · rintro e; rw [e]
theorem btIs32 {s : ByteArray} {i : Nat} (h : i < s.size) : bt s (i : Int) = 32 ↔ s.data.toList[i]'(by simpa using h) = 32 := btIs h 32
theorem ref_Marked (s t : ByteArray) (h : s.size ≤ 1000000) : Gives (fun k => sennitref21_Marked.f k s t) (s.data.toList.any (· != 32)) := by
  have hl : ∀ (r i : Nat), i + r = s.size → Gives (fun k => sennitref21_Marked.l0 k (i : Int) s t) ((s.data.toList.drop i).any (· != 32)) := by
    intro r
    induction r with
    | zero =>
      intro i hi
      refine Gives.of fun k => ?_
      show sennitref21_Marked.l0 (k + 1) (i : Int) s t = _
      rw [sennitref21_Marked.l0, if_neg (by omega), List.drop_of_length_le (by rw [← sizeLen]; omega)]; rfl
    | succ r ih =>
      intro i hi
      have hs : i < s.size := by omega
      have hil : i < s.data.toList.length := by rw [← sizeLen]; omega
      rw [dropCons hil, List.any_cons]
      by_cases e : s.data.toList[i] = 32
      · have e2 : (s.data.toList[i] != 32) = false := by simp [e]
        rw [e2, Bool.false_or]
        refine (ih (i + 1) (by omega)).step fun k => ?_
        show sennitref21_Marked.l0 (k + 1) (i : Int) s t = _
        rw [sennitref21_Marked.l0, if_pos (by omega), if_pos (by omega), if_pos ((btIs32 hs).2 e), gw1 (by omega)]
      · have e2 : (s.data.toList[i] != 32) = true := bne_iff_ne.2 e
        rw [e2, Bool.true_or]
        refine Gives.of fun k => ?_
        show sennitref21_Marked.l0 (k + 1) (i : Int) s t = _
        rw [sennitref21_Marked.l0, if_pos (by omega), if_pos (by omega), if_neg (fun q => e ((btIs32 hs).1 q))]
  exact (hl s.size 0 (by omega)).same fun k => rfl
theorem rdH {rows : List RowH} {i : Nat} (h : i < rows.length) : rd_T57 rows (i : Int) = rows[i] := getN h
theorem ref_marked_at {rows : List RowH} (hz : Low rows) {i : Nat} (h : i < rows.length) : Gives (fun k => sennitref21_Marked.f k (rd_T57 rows (i : Int)).f0 (rd_T57 rows (i : Int)).f1) (HkP.mk mrkB rows i) := by
  rw [rdH h, HkP.mk_at _ h]
  exact ref_Marked _ _ (hz _ (List.getElem_mem h))
theorem ref_end {rows : List RowH} (hz : Low rows) (hl : rows.length ≤ 1000000) : ∀ (r i : Nat), i + r = rows.length → Gives (fun k => sennitref21_end.f k rows (i : Int)) (HkP.groupEnd mrkB rows i : Int) := by
  intro r
  induction r with
  | zero =>
    intro i hi
    rw [HkP.groupEnd_stop _ (fun ⟨h, _⟩ => by omega)]
    refine Gives.of fun k => ?_
    show sennitref21_end.l0 (k + 1) rows (i : Int) = _
    rw [sennitref21_end.l0, if_neg (by omega)]
  | succ r ih =>
    intro i hi
    have hil : i < rows.length := by omega
    have hm := ref_marked_at hz hil
    cases e : HkP.mk mrkB rows i with
    | true =>
      rw [e] at hm
      have e2 := (HkP.mk_iff _).1 e
      rw [HkP.groupEnd_step _ hil e2.2]
      refine Gives.call hm (ih (i + 1) (by omega)) fun k hk => ?_
      show sennitref21_end.l0 (k + 1) rows (i : Int) = sennitref21_end.l0 k rows _
      rw [sennitref21_end.l0, if_pos (by omega), if_pos (by omega), hk, Option.bind_some, if_pos rfl, gw1 (by omega)]
    | false =>
      rw [e] at hm
      rw [HkP.groupEnd_stop _ ((HkP.mk_no _).1 e)]
      refine Gives.last hm fun k hk => ?_
      show sennitref21_end.l0 (k + 1) rows (i : Int) = _
      rw [sennitref21_end.l0, if_pos (by omega), if_pos (by omega), hk, Option.bind_some, if_neg (by decide)]
theorem ref_begin {rows : List RowH} (hz : Low rows) (hl : rows.length ≤ 1000000) : ∀ (i : Nat), i ≤ rows.length → Gives (fun k => sennitref21_begin.f k rows (i : Int)) (HkP.groupBegin mrkB rows i : Int) := by
  intro i
  induction i with
  | zero =>
    intro hi
    refine Gives.of fun k => ?_
    show sennitref21_begin.l0 (k + 1) rows ((0 : Nat) : Int) = _
    rw [sennitref21_begin.l0, if_neg (by omega)]; rfl
  | succ i ih =>
    intro hi
    have hil : i < rows.length := by omega
    have hm := ref_marked_at hz hil
    have e1 : wrap64 (((i + 1 : Nat) : Int) - 1) = (i : Int) := by rw [gw (by omega) (by omega)]; omega
    rw [HkP.groupBegin]
    cases e : HkP.mk mrkB rows i with
    | true =>
      rw [e] at hm
      rw [if_pos rfl]
      refine Gives.call hm (ih (by omega)) fun k hk => ?_
      show sennitref21_begin.l0 (k + 1) rows ((i + 1 : Nat) : Int) = sennitref21_begin.l0 k rows _
      rw [sennitref21_begin.l0, if_pos (by omega), e1, if_pos (by omega), if_pos (by omega), hk, Option.bind_some, if_pos rfl]
    | false =>
      rw [e] at hm
      rw [if_neg (by decide)]
      refine Gives.last hm fun k hk => ?_
      show sennitref21_begin.l0 (k + 1) rows ((i + 1 : Nat) : Int) = _
      rw [sennitref21_begin.l0, if_pos (by omega), e1, if_pos (by omega), if_pos (by omega), hk, Option.bind_some, if_neg (by decide)]
def spanN (p : Nat × Nat) : S45 := ⟨(p.1 : Int), (p.2 : Int)⟩
end Go.Proofs.YthcnfflhejogfaaDoor.X
-- part XOpen
namespace Go.Proofs.YthcnfflhejogfaaDoor.X
open Go.RowKit Go.Proofs.YthcnfflhejogfaaDoorW.PrintWords Go.Deep
set_option linter.unusedVariables false
/-- No part of it is larger than memory. -/
def Light {H : Type} (P : Program) (t : TypeId) (d : DataW H) : Prop := ∀ n ∈ d.weights P t, n ≤ 140737488351232
/-- Whatever reads as data of type t, and is light, has cells of the kind d, and is good. -/
def Opens {α : Type} (P : Program) (t : TypeId) (d : Kd α) (good : α → Prop) : Prop :=
  ∀ {H : Type} (enc : TypeId × Value → H) (w : World) (fuel : Nat) (cs : List Value) (x : DataW H × List MemPlace),
    DataW.trod enc P w 0 (fun _ => true) true fuel t cs = some x → Light P t x.1 → ∃ y, d.K w y cs ∧ good y

theorem opens_string {P : Program} {t : TypeId} (ht : P.underlying t = some .string) : Opens P t Kd.string (fun s => s.size ≤ 140737488351232) := by
  intro H enc w fuel cs x h hl
  obtain ⟨s, rfl, rfl, hs⟩ := DataW.trod_string ht h
  refine ⟨s, rfl, ?_⟩
  have := hl s.data.toList.length (by simp [DataW.weights])
  simpa using this
theorem mem_weightsAll {H : Type} {P : Program} {e : TypeId} {n : Nat} : ∀ {l : List (DataW H)} {d : DataW H}, d ∈ l → n ∈ d.weights P e → n ∈ DataW.weightsAll P e l
  | d0 :: l, d, h, hn => by
    simp only [DataW.weightsAll, List.mem_append]
    rcases List.mem_cons.1 h with rfl | h
    · exact .inl hn
    · exact .inr (mem_weightsAll h hn)

theorem pick_list {α : Type} {Q : Nat → α → Prop} : ∀ n : Nat, (∀ i, i < n → ∃ y, Q i y) → ∃ ys : List α, ys.length = n ∧ ∀ (i : Nat) (y : α), ys[i]? = some y → Q i y
  | 0, _ => ⟨[], rfl, fun i y h => by simp at h⟩
  | n + 1, h => by
    obtain ⟨ys, hl, hq⟩ := pick_list n (fun i hi => h i (by omega))
    obtain ⟨y, hy⟩ := h n (by omega)
    refine ⟨ys ++ [y], by simp [hl], fun i z hz => ?_⟩
    rcases Nat.lt_or_ge i ys.length with hi | hi
    · rw [List.getElem?_append_left hi] at hz
      exact hq i z hz
    · have hi' : i = n := by
        have := (List.getElem?_eq_some_iff.1 hz).1
        simp at this
        omega
      subst hi'
      rw [List.getElem?_append_right hi, hl] at hz
      simp at hz
      exact hz ▸ hy

theorem opens_slice {α : Type} {P : Program} {t e : TypeId} {d : Kd α} {good : α → Prop} (ht : P.underlying t = some (.slice e)) (hc : P.cellsOf e = d.sz) {B : Nat} (hB : P.bytesOf e = B) (hd : Opens P e d good) :
    Opens P t (Kd.slice e d) (fun l => l.length * B ≤ 140737488351232 ∧ ∀ y ∈ l, good y) := by
  intro H enc w fuel cs x h hw
  rcases open_slice ht h with ⟨rfl, _⟩ | ⟨a, len, cap, m, n, D, Pl, rfl, _, hl, hm, hmm, rfl, hx⟩
  · exact ⟨[], ⟨none, 0, rfl, Nat.le_refl _, rfl, by simp, fun h => absurd h (by simp)⟩, by simp, by simp⟩
  · have hle : len ≤ m := by
      rw [hmm]
      simp
      exact hl
    have hD : ∀ i, i < len → Light P e (D i) := fun i hi n hn => hw n (by
      simp only [DataW.weights, ht]
      exact List.mem_cons_of_mem _ (List.mem_append_left _ (mem_weightsAll (List.mem_map.2 ⟨i, List.mem_range.2 hi, rfl⟩) hn)))
    have hS : len * B ≤ 140737488351232 := by
      have z := hw _ (by simp only [DataW.weights, ht]; exact List.mem_cons_self)
      rw [hB] at z
      simp only [List.length_map, List.length_range] at z
      exact Nat.le_trans (Nat.mul_le_mul_right _ (Nat.le_add_right _ _)) z
    obtain ⟨ys, hyl, hyq⟩ := pick_list (Q := fun i y => ∃ c, w.cells? 0 (a.add (i * d.sz)) d.sz = some c ∧ d.K w y c ∧ good y) len (fun i hi => by
      obtain ⟨c, h1, h2⟩ := hx i (by omega)
      obtain ⟨y, h3, h4⟩ := hd enc w n c _ h2 (hD i hi)
      rw [hc] at h1
      exact ⟨y, c, h1, h3, h4⟩)
    refine ⟨ys, ⟨some a, cap, by rw [hyl], by omega, rfl, ?_, fun _ => ⟨a, rfl, fun j p hp => ?_⟩⟩, ?_, fun y hy => ?_⟩
    · unfold maxLen at hm; omega
    · obtain ⟨c, h1, h3, _⟩ := hyq j p hp
      obtain ⟨_, hlen, hcell⟩ := World.cells?_some h1
      refine ⟨c, hlen, h3, fun i u hu => ?_⟩
      have hi : i < d.sz := by rw [← hlen]; exact (List.getElem?_eq_some_iff.1 hu).1
      rw [← Go.Deep.add_add, hcell i hi, hu]
    · rw [hyl]; exact hS
    · obtain ⟨j, hj, rfl⟩ := List.mem_iff_getElem.1 hy
      obtain ⟨_, _, _, hg⟩ := hyq j _ (List.getElem?_eq_getElem hj)
      exact hg

theorem opens_iso {α β : Type} {P : Program} {t : TypeId} {d : Kd α} {good : α → Prop} (f : β → α) (hf : ∀ y, ∃ x, f x = y) (hd : Opens P t d good) : Opens P t (Kd.iso d f) (fun x => good (f x)) := by
  intro H enc w fuel cs x h hw
  obtain ⟨y, h1, h2⟩ := hd enc w fuel cs x h hw
  obtain ⟨z, rfl⟩ := hf y
  exact ⟨z, h1, h2⟩

theorem pair_K {α β : Type} {a : Kd α} {b : Kd β} {w : World} {x : α} {y : β} {cs : List Value} (h0 : a.K w x (cs.take a.sz)) (h1 : b.K w y (cs.drop a.sz)) : (Kd.pair a b).K w (x, y) cs :=
  ⟨_, _, (List.take_append_drop _ _).symm, h0, h1⟩

/-- Fields, one behind the other, from a cell on. -/
def OpensF {α : Type} (P : Program) (fs : List Field) (off : Nat) (d : Kd α) (good : α → Prop) : Prop :=
  ∀ {H : Type} (enc : TypeId × Value → H) (w : World) (n : Nat) (cs : List Value) (xs : List (DataW H × List MemPlace)),
    (∀ (i : Nat) (f : Field), fs[i]? = some f → DataW.trod enc P w 0 (fun _ => true) true n f.type ((cs.drop f.offset).take (P.cellsOf f.type)) = xs[i]?) → xs.length = fs.length → cs.length = off + d.sz →
    (∀ m ∈ DataW.weightsEach P (fs.map (·.type)) (xs.map (·.1)), m ≤ 140737488351232) → ∃ y, d.K w y (cs.drop off) ∧ good y
theorem opensF_one {α : Type} {P : Program} {f : Field} {off : Nat} {d : Kd α} {good : α → Prop} (ho : f.offset = off) (hs : P.cellsOf f.type = d.sz) (h : Opens P f.type d good) : OpensF P [f] off d good := by
  intro H enc w n cs xs hx hl hc hw
  match xs, hl with
  | [x], _ =>
    have h0 := hx 0 f rfl
    rw [ho, hs, List.take_of_length_le (by rw [List.length_drop]; omega)] at h0
    exact h enc w n _ _ h0 (fun m hm => hw m (by simp [DataW.weightsEach, hm]))
theorem opensF_cons {α β : Type} {P : Program} {f : Field} {fs : List Field} {off : Nat} {a : Kd α} {b : Kd β} {ga : α → Prop} {gb : β → Prop} (ho : f.offset = off) (hs : P.cellsOf f.type = a.sz) (h : Opens P f.type a ga) (hr : OpensF P fs (off + a.sz) b gb) :
    OpensF P (f :: fs) off (Kd.pair a b) (fun x => ga x.1 ∧ gb x.2) := by
  intro H enc w n cs xs hx hl hc hw
  match xs, hl with
  | x :: xs, hl =>
    have h0 := hx 0 f rfl
    rw [ho, hs] at h0
    obtain ⟨y0, k0, g0⟩ := h enc w n _ _ h0 (fun m hm => hw m (by simp [DataW.weightsEach, hm]))
    obtain ⟨y1, k1, g1⟩ := hr enc w n cs xs (fun i f hf => hx (i + 1) f hf) (by simpa using hl) (by rw [hc]; show off + (a.sz + b.sz) = _; omega) (fun m hm => hw m (by simp only [List.map_cons, DataW.weightsEach, List.mem_append]; exact .inr hm))
    exact ⟨(y0, y1), pair_K k0 (by rw [List.drop_drop]; exact k1), g0, g1⟩
theorem opens_struct {α : Type} {P : Program} {t : TypeId} {fs : Array Field} {d : Kd α} {good : α → Prop} (ht : P.underlying t = some (.struct fs)) (hl : P.cellsOf t = d.sz) (h : OpensF P fs.toList 0 d good) : Opens P t d good := by
  intro H enc w fuel cs x hx hw
  obtain ⟨xs, n, _, rfl, hcl, hxl, hx⟩ := DataW.trod_struct ht hx
  exact h enc w n cs xs (fun i f hf => hx i f (by simpa using hf)) (by simpa using hxl) (by omega) (fun m hm => hw m (by simpa [DataW.weights, ht] using hm))

/-- An argument that is a slice: its value, what it reads as. -/
theorem Opens.slice_arg {α : Type} {P : Program} {t e : TypeId} {d : Kd α} {g : List α → Prop} (h : Opens P t (Kd.slice e d) g) {H : Type} {enc : TypeId × Value → H} {w : World} {v : Value} {x : DataW H} {ps : List MemPlace}
    (hv : ∃ a len cap, v = .slice a len cap) (hw : Light P t x) (ht : DataW.Trod enc P w 0 (fun _ => true) true t v x ps) :
    ∃ A c l, v = .slice A l.length c ∧ Kd.C d w A l.length l ∧ l.length ≤ c ∧ g l := by
  obtain ⟨fuel, hf⟩ := ht
  obtain ⟨l, ⟨A, c, hcs, hlc, hC⟩, hg⟩ := h enc w fuel _ _ hf hw
  obtain ⟨a, len, cap, rfl⟩ := hv
  simp [Value.cells] at hcs
  obtain ⟨rfl, rfl, rfl⟩ := hcs
  exact ⟨_, _, l, rfl, hC, hlc, hg⟩
/-- A row's datum is light. -/
theorem light_of {H : Type} {P : Program} {ts : List TypeId} {ds : List (DataW H)} (hsz : (DataW.weightsEach P ts ds).all (· ≤ reachBytes) = true) {j : Nat} {t : TypeId} {d : DataW H} (ht : ts[j]? = some t) (hd : ds[j]? = some d) : Light P t d := by
  intro n hn
  have := List.all_eq_true.1 hsz _ (DataW.weights_mem_each ht hd n hn)
  exact of_decide_eq_true this
end Go.Proofs.YthcnfflhejogfaaDoor.X
-- part XRange
namespace Go.Proofs.YthcnfflhejogfaaDoor.X
open Go.RowKit
set_option linter.unusedVariables false
/-- The iterator's side: whatever the rounds keep (B: of what is no cells), it goes from s0 to a state that is S. -/
def IterGoes {σ α : Type} (F : Fence) (n : Nat) (P : Program) (gf : Nat) (lb : Array Value) (encs : α → Array Value) (I : σ → World → Prop) (ok : σ → α → Prop) (step : σ → α → σ) (S : σ → Prop) (s0 : σ) : Prop :=
  ∀ (l : Nat) (B : World → Prop), (∀ W W', B W → KeepsOthers W W' → B W') →
    (∀ s x W, I s W → B W → ok s x → YieldAt F (n - 1) P l (encs x) W fun e W' => e = .returned (.bool true) ∧ I (step s x) W' ∧ B W') →
    ∀ W, I s0 W → B W → CallsIn F n P gf (#[.func (.yield l) #[] #[]] ++ lb) W fun e W' => (∃ v, e = .returned v) ∧ ∃ s, S s ∧ I s W' ∧ B W'

end Go.Proofs.YthcnfflhejogfaaDoor.X
-- part XShelf
namespace Go.Proofs
open Go.Shelf
def Tryd.lays160_ren : Go.Shelf.Ren := ⟨fun | 160 => 64 | 232 => 89 | 231 => 88 | 227 => 90 | 234 => 92 | 233 => 91 | 236 => 94 | 235 => 93 | 228 => 108 | 271 => 111 | 151 => 110 | 197 => 109 | 120 => 129 | 152 => 128 | 260 => 127 | 137 => 139 | 119 => 140 | 224 => 125 | 225 => 124 | 217 => 123 | 266 => 137 | n => n, fun | 9 => 9 | 4 => 4 | 3 => 3 | 5 => 5 | 117 => 118 | 116 => 117 | 0 => 0 | 124 => 121 | 21 => 21 | 105 => 128 | 46 => 150 | 119 => 158 | 139 => 161 | 138 => 160 | n => n, fun | 3 => 1 | 4 => 2 | n => n⟩
theorem Tryd.lays160 : Go.Proofs.Lays.n160 Tryd.prog Tryd.lays160_ren := {
  mixed := by kernel_rfl
  f119 := Tryd.func140.trans (congrArg some (by kernel_rfl))
  f120 := Tryd.func129.trans (congrArg some (by kernel_rfl))
  f137 := Tryd.func139.trans (congrArg some (by kernel_rfl))
  f151 := Tryd.func110.trans (congrArg some (by kernel_rfl))
  f152 := Tryd.func128.trans (congrArg some (by kernel_rfl))
  f160 := Tryd.func64.trans (congrArg some (by kernel_rfl))
  f197 := Tryd.func109.trans (congrArg some (by kernel_rfl))
  f217 := Tryd.func123.trans (congrArg some (by kernel_rfl))
  f224 := Tryd.func125.trans (congrArg some (by kernel_rfl))
  f225 := Tryd.func124.trans (congrArg some (by kernel_rfl))
  f227 := Tryd.func90.trans (congrArg some (by kernel_rfl))
  f228 := Tryd.func108.trans (congrArg some (by kernel_rfl))
  f231 := Tryd.func88.trans (congrArg some (by kernel_rfl))
  f232 := Tryd.func89.trans (congrArg some (by kernel_rfl))
  f233 := Tryd.func91.trans (congrArg some (by kernel_rfl))
  f234 := Tryd.func92.trans (congrArg some (by kernel_rfl))
  f235 := Tryd.func93.trans (congrArg some (by kernel_rfl))
  f236 := Tryd.func94.trans (congrArg some (by kernel_rfl))
  f260 := Tryd.func127.trans (congrArg some (by kernel_rfl))
  f266 := Tryd.func137.trans (congrArg some (by kernel_rfl))
  f271 := Tryd.func111.trans (congrArg some (by kernel_rfl))
  t0 := Tryd.underlying0
  a0 := Tryd.isAgg0
  z0 := Tryd.sizeOf0
  v0 := Tryd.zeroValue0
  t3 := Tryd.underlying3
  a3 := Tryd.isAgg3
  z3 := Tryd.sizeOf3
  v3 := Tryd.zeroValue3
  t4 := Tryd.underlying4
  a4 := Tryd.isAgg4
  z4 := Tryd.sizeOf4
  v4 := Tryd.zeroValue4
  t5 := Tryd.underlying5
  a5 := Tryd.isAgg5
  z5 := Tryd.sizeOf5
  v5 := Tryd.zeroValue5
  t9 := Tryd.underlying9
  a9 := Tryd.isAgg9
  z9 := Tryd.sizeOf9
  v9 := Tryd.zeroValue9
  t21 := Tryd.underlying21
  a21 := Tryd.isAgg21
  z21 := Tryd.sizeOf21
  v21 := Tryd.zeroValue21
  t46 := Tryd.underlying150
  a46 := Tryd.isAgg150
  z46 := Tryd.sizeOf150
  v46 := Tryd.zeroValue150
  t105 := Tryd.underlying128
  a105 := Tryd.isAgg128
  z105 := Tryd.sizeOf128
  v105 := Tryd.zeroValue128
  t116 := Tryd.underlying117
  a116 := Tryd.isAgg117
  z116 := Tryd.sizeOf117
  t117 := Tryd.underlying118
  a117 := Tryd.isAgg118
  z117 := Tryd.sizeOf118
  v117 := Tryd.zeroValue118
  t119 := Tryd.underlying158
  a119 := Tryd.isAgg158
  z119 := Tryd.sizeOf158
  t124 := Tryd.underlying121
  a124 := Tryd.isAgg121
  z124 := Tryd.sizeOf121
  v124 := Tryd.zeroValue121
  t138 := Tryd.underlying160
  a138 := Tryd.isAgg160
  z138 := Tryd.sizeOf160
  v138 := Tryd.zeroValue160
  t139 := Tryd.underlying161
  a139 := Tryd.isAgg161
  z139 := Tryd.sizeOf161
  v139 := Tryd.zeroValue161
  g3 := by kernel_rfl
  g4 := by kernel_rfl }
def Tryd.lays143_ren : Go.Shelf.Ren := ⟨fun | 143 => 86 | 219 => 107 | 217 => 123 | 225 => 124 | 224 => 125 | 267 => 126 | 266 => 137 | 314 => 138 | n => n, fun | 9 => 9 | 3 => 3 | 4 => 4 | 5 => 5 | 46 => 150 | 146 => 156 | 51 => 155 | n => n, fun | 1 => 0 | n => n⟩
theorem Tryd.lays143 : Go.Proofs.Lays.n143 Tryd.prog Tryd.lays143_ren := {
  mixed := by kernel_rfl
  f143 := Tryd.func86.trans (congrArg some (by kernel_rfl))
  f217 := Tryd.func123.trans (congrArg some (by kernel_rfl))
  f219 := Tryd.func107.trans (congrArg some (by kernel_rfl))
  f224 := Tryd.func125.trans (congrArg some (by kernel_rfl))
  f225 := Tryd.func124.trans (congrArg some (by kernel_rfl))
  f266 := Tryd.func137.trans (congrArg some (by kernel_rfl))
  f267 := Tryd.func126.trans (congrArg some (by kernel_rfl))
  f314 := Tryd.func138.trans (congrArg some (by kernel_rfl))
  t3 := Tryd.underlying3
  a3 := Tryd.isAgg3
  z3 := Tryd.sizeOf3
  v3 := Tryd.zeroValue3
  t4 := Tryd.underlying4
  a4 := Tryd.isAgg4
  z4 := Tryd.sizeOf4
  v4 := Tryd.zeroValue4
  t5 := Tryd.underlying5
  a5 := Tryd.isAgg5
  z5 := Tryd.sizeOf5
  v5 := Tryd.zeroValue5
  t9 := Tryd.underlying9
  a9 := Tryd.isAgg9
  z9 := Tryd.sizeOf9
  v9 := Tryd.zeroValue9
  t46 := Tryd.underlying150
  a46 := Tryd.isAgg150
  z46 := Tryd.sizeOf150
  v46 := Tryd.zeroValue150
  t51 := Tryd.underlying155
  a51 := Tryd.isAgg155
  z51 := Tryd.sizeOf155
  v51 := Tryd.zeroValue155
  t146 := Tryd.underlying156
  a146 := Tryd.isAgg156
  z146 := Tryd.sizeOf156
  v146 := Tryd.zeroValue156
  g1 := by kernel_rfl }
open Go.RowKit Go.Lib in
/-- strings.Index: "Index returns the index of the first instance of substr in s, or -1 if substr is not present in s.": AT A substr OF ONE BYTE c: IT RETURNS 'Lib.indexByte s c'; the world is as it was. (LAID: no walk: one application.) -/
theorem Tryd.strings_Index_one (s : ByteArray) (c : UInt8) (w : World) :
    Calls Tryd.prog 86 #[.string s, .string ⟨#[c]⟩] w fun e w' => e = .returned (.int .i64 (Lib.indexByte s.data.toList c)) ∧ w' = w := Any.strings_Index_one Tryd.lays143 s c w
def Tryd.lays155_ren : Go.Shelf.Ren := ⟨fun | 155 => 85 | 154 => 106 | 138 => 119 | 165 => 120 | 143 => 86 | 166 => 121 | 197 => 109 | 169 => 122 | 195 => 133 | 218 => 134 | 240 => 135 | 241 => 136 | 219 => 107 | 260 => 127 | 276 => 141 | 277 => 142 | 217 => 123 | 225 => 124 | 224 => 125 | 267 => 126 | 266 => 137 | 314 => 138 | n => n, fun | 9 => 9 | 3 => 3 | 4 => 4 | 72 => 141 | 0 => 0 | 76 => 145 | 105 => 128 | 21 => 21 | 5 => 5 | 70 => 138 | 20 => 20 | 37 => 139 | 75 => 144 | 127 => 154 | 164 => 163 | 46 => 150 | 119 => 158 | 139 => 161 | 138 => 160 | 146 => 156 | 51 => 155 | 80 => 147 | n => n, fun | 1 => 0 | 3 => 1 | 4 => 2 | n => n⟩
theorem Tryd.lays155 : Go.Proofs.Lays.n155 Tryd.prog Tryd.lays155_ren := {
  mixed := by kernel_rfl
  f138 := Tryd.func119.trans (congrArg some (by kernel_rfl))
  f143 := Tryd.func86.trans (congrArg some (by kernel_rfl))
  f154 := Tryd.func106.trans (congrArg some (by kernel_rfl))
  f155 := Tryd.func85.trans (congrArg some (by kernel_rfl))
  f165 := Tryd.func120.trans (congrArg some (by kernel_rfl))
  f166 := Tryd.func121.trans (congrArg some (by kernel_rfl))
  f169 := Tryd.func122.trans (congrArg some (by kernel_rfl))
  f195 := Tryd.func133.trans (congrArg some (by kernel_rfl))
  f197 := Tryd.func109.trans (congrArg some (by kernel_rfl))
  f217 := Tryd.func123.trans (congrArg some (by kernel_rfl))
  f218 := Tryd.func134.trans (congrArg some (by kernel_rfl))
  f219 := Tryd.func107.trans (congrArg some (by kernel_rfl))
  f224 := Tryd.func125.trans (congrArg some (by kernel_rfl))
  f225 := Tryd.func124.trans (congrArg some (by kernel_rfl))
  f240 := Tryd.func135.trans (congrArg some (by kernel_rfl))
  f241 := Tryd.func136.trans (congrArg some (by kernel_rfl))
  f260 := Tryd.func127.trans (congrArg some (by kernel_rfl))
  f266 := Tryd.func137.trans (congrArg some (by kernel_rfl))
  f267 := Tryd.func126.trans (congrArg some (by kernel_rfl))
  f276 := Tryd.func141.trans (congrArg some (by kernel_rfl))
  f277 := Tryd.func142.trans (congrArg some (by kernel_rfl))
  f314 := Tryd.func138.trans (congrArg some (by kernel_rfl))
  t0 := Tryd.underlying0
  a0 := Tryd.isAgg0
  z0 := Tryd.sizeOf0
  v0 := Tryd.zeroValue0
  t3 := Tryd.underlying3
  a3 := Tryd.isAgg3
  z3 := Tryd.sizeOf3
  v3 := Tryd.zeroValue3
  t4 := Tryd.underlying4
  a4 := Tryd.isAgg4
  z4 := Tryd.sizeOf4
  v4 := Tryd.zeroValue4
  t5 := Tryd.underlying5
  a5 := Tryd.isAgg5
  z5 := Tryd.sizeOf5
  v5 := Tryd.zeroValue5
  t9 := Tryd.underlying9
  a9 := Tryd.isAgg9
  z9 := Tryd.sizeOf9
  v9 := Tryd.zeroValue9
  t20 := Tryd.underlying20
  a20 := Tryd.isAgg20
  z20 := Tryd.sizeOf20
  v20 := Tryd.zeroValue20
  t21 := Tryd.underlying21
  a21 := Tryd.isAgg21
  z21 := Tryd.sizeOf21
  v21 := Tryd.zeroValue21
  t37 := Tryd.underlying139
  a37 := Tryd.isAgg139
  z37 := Tryd.sizeOf139
  v37 := Tryd.zeroValue139
  t46 := Tryd.underlying150
  a46 := Tryd.isAgg150
  z46 := Tryd.sizeOf150
  v46 := Tryd.zeroValue150
  t51 := Tryd.underlying155
  a51 := Tryd.isAgg155
  z51 := Tryd.sizeOf155
  v51 := Tryd.zeroValue155
  t70 := Tryd.underlying138
  a70 := Tryd.isAgg138
  z70 := Tryd.sizeOf138
  v70 := Tryd.zeroValue138
  t72 := Tryd.underlying141
  a72 := Tryd.isAgg141
  z72 := Tryd.sizeOf141
  v72 := Tryd.zeroValue141
  t75 := Tryd.underlying144
  a75 := Tryd.isAgg144
  z75 := Tryd.sizeOf144
  v75 := Tryd.zeroValue144
  t76 := Tryd.underlying145
  a76 := Tryd.isAgg145
  z76 := Tryd.sizeOf145
  v76 := Tryd.zeroValue145
  t105 := Tryd.underlying128
  a105 := Tryd.isAgg128
  z105 := Tryd.sizeOf128
  v105 := Tryd.zeroValue128
  t119 := Tryd.underlying158
  a119 := Tryd.isAgg158
  z119 := Tryd.sizeOf158
  t127 := Tryd.underlying154
  a127 := Tryd.isAgg154
  z127 := Tryd.sizeOf154
  v127 := Tryd.zeroValue154
  t138 := Tryd.underlying160
  a138 := Tryd.isAgg160
  z138 := Tryd.sizeOf160
  v138 := Tryd.zeroValue160
  t139 := Tryd.underlying161
  a139 := Tryd.isAgg161
  z139 := Tryd.sizeOf161
  v139 := Tryd.zeroValue161
  t146 := Tryd.underlying156
  a146 := Tryd.isAgg156
  z146 := Tryd.sizeOf156
  v146 := Tryd.zeroValue156
  t164 := Tryd.underlying163
  a164 := Tryd.isAgg163
  z164 := Tryd.sizeOf163
  v164 := Tryd.zeroValue163
  g1 := by kernel_rfl
  g3 := by kernel_rfl
  g4 := by kernel_rfl }
theorem Tryd.Builder_Extra_155 : Builder.Extra Tryd.prog Tryd.lays155_ren := {
  sizeBuilder := by kernel_rfl
  liesBuilder := by kernel_rfl
  t5 := Tryd.underlying5
  a5 := Tryd.isAgg5
  z5 := Tryd.sizeOf5
  v5 := Tryd.zeroValue5
  infoByte := by kernel_rfl
  cellsByte := by kernel_rfl
  sizeByte := by kernel_rfl
  neB5 := by decide }
open Go.RowKit Go.Lib in
/-- strings.ReplaceAll: "ReplaceAll returns a copy of the string s with all non-overlapping instances of old replaced by new.": AT AN old THAT IS NOT EMPTY: 'Lib.replaceAll s old new'. (LAID: no walk: one application.) -/
theorem Tryd.strings_ReplaceAll (s old new : ByteArray) (m : Int) (w : World) (hs : s.size < 4294967281) (hm : w.cell? ⟨0, 0, none⟩ = some (.int .i64 m)) (h1 : 1 ≤ old.size) (hlen : s.size + Lib.countB s old * new.size ≤ 140737488355328) :
    Calls Tryd.prog 85 #[.string s, .string old, .string new] w fun e w' =>
      e = .returned (.string ⟨(Lib.replaceAll s.data.toList old.data.toList new.data.toList).toArray⟩) ∧ Below w.heap.size w w' := Any.strings_ReplaceAll Tryd.lays155 Tryd.Builder_Extra_155 s old new m w hs hm h1 hlen
end Go.Proofs
-- part XStr1
namespace Go.Proofs.YthcnfflhejogfaaDoor.X
open Go.RowKit Go.Proofs.YthcnfflhejogfaaDoorW.PrintWords Go.Proofs.YthcnfflhejogfaaDoorW.PrintLast Go.Proofs.YthcnfflhejogfaaDoorW.PrintMore
set_option linter.unusedVariables false
set_option linter.unusedSimpArgs false
def strings_Index.f (s sub : ByteArray) : Option Int := match sub.data.toList with | [c] => some (Lib.indexByte s.data.toList c) | _ => none
theorem one_byte {sub : ByteArray} {c : UInt8} (h : sub.data.toList = [c]) : sub = ⟨#[c]⟩ := ByteArray.ext (Array.toList_inj.1 h)
theorem strings_Index.calls (a0 a1 : ByteArray) (r : Int) (w : World) (h : strings_Index.f a0 a1 = some r) : Calls Tryd.prog 86 #[.string a0, .string a1] w fun e w' => e = .returned (.int .i64 r) ∧ Drawn0 w w' := by
  unfold strings_Index.f at h
  split at h
  · rename_i c e
    obtain rfl := one_byte e
    have h := Option.some.inj h
    subst h
    refine (Tryd.strings_Index_one a0 c w).mono ?_
    rintro e w1 ⟨rfl, he⟩
    exact ⟨rfl, he ▸ Drawn0.refl _⟩
  · cases h
def strings_Contains.f (s sub : ByteArray) : Option Bool := match sub.data.toList with | [c] => some (decide (0 ≤ Lib.indexByte s.data.toList c)) | _ => none
theorem strings_Contains.calls (a0 a1 : ByteArray) (r : Bool) (w : World) (h : strings_Contains.f a0 a1 = some r) : Calls Tryd.prog 62 #[.string a0, .string a1] w fun e w' => e = .returned (.bool r) ∧ Drawn0 w w' := by
  unfold strings_Contains.f at h
  split at h
  · rename_i c e
    obtain rfl := one_byte e
    have h := Option.some.inj h
    subst h
    obtain ⟨q, hq⟩ : ∃ q, Lib.indexByte a0.data.toList c = q := ⟨_, rfl⟩
    rw [hq]
    have HQ := Aside0.mk hq
    clear hq
    go_enter Tryd.func62, Tryd.ntmps62
    go_wp2_with fail
    refine (Tryd.strings_Index_one a0 c _).mono ?_
    rintro e w1 ⟨rfl, he⟩
    obtain rfl := he.symm
    clear he
    rw [HQ.out]
    go_wp2
    go_ret
    exact ⟨rfl, Drawn0.refl _⟩
  · cases h
end Go.Proofs.YthcnfflhejogfaaDoor.X
