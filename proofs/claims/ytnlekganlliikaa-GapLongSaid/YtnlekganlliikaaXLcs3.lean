/-
  slices.Repeat of a list of one number: by hand.
-/
import Derived.Test.YtnlekganlliikaaXLcs2
import Derived.Test.YtnlekganlliikaaXShelf
import Derived.Laws.CopyOwn
import Derived.StillTailTactics
import Derived.Deep.RegionLaw
namespace Go.Proofs.Ytnlekganlliikaa.X
open Go.RowKit Go.Proofs.YtnlekganlliikaaW.PrintWords Go.Proofs.YtnlekganlliikaaW.PrintLast Go.Proofs.YtnlekganlliikaaW.PrintMore
set_option linter.unusedVariables false
set_option linter.unusedSimpArgs false

theorem madeCells_one (z : Value) (n : Nat) : madeCells #[z] (n * 1) = (List.replicate n z).toArray := by
  apply Array.ext
  · simp [size_madeCells]
  · intro i h1 h2
    simp [madeCells, Nat.mod_one]

/-- How the row stands when its first m places are laid. -/
def repRow (v : Int) (m n : Nat) : List Value := List.replicate m (.int .i64 v) ++ List.replicate (n - m) (.int .i64 0)
theorem repRow_length (v : Int) {m n : Nat} (h : m ≤ n) : (repRow v m n).length = n := by simp [repRow]; omega
theorem splice_rep (v : Int) {m k n : Nat} (h : m + k ≤ n) : splice (repRow v m n) m (List.replicate k (.int .i64 v)) = repRow v (m + k) n := by
  unfold splice repRow
  have h1 : (List.replicate m (Value.int .i64 v) ++ List.replicate (n - m) (Value.int .i64 0)).take m = List.replicate m (Value.int .i64 v) := List.take_left' (by simp)
  have h2 : (List.replicate m (Value.int .i64 v) ++ List.replicate (n - m) (Value.int .i64 0)).drop (m + (List.replicate k (Value.int .i64 v)).length) = List.replicate (n - (m + k)) (Value.int .i64 0) := by
    rw [List.length_replicate, List.drop_append, List.drop_of_length_le (by simp), List.nil_append, List.length_replicate, List.drop_replicate]
    congr 1
    omega
  rw [h1, h2, ← List.append_assoc, List.replicate_append_replicate]

theorem rep_cells {W : World} {ad : Addr} {v : Int} {m : Nat} (h : W.cell? ad = some (.int .i64 v)) (hm : m ≤ 1) (j : Nat) (u : Value) (hj : (List.replicate m (Value.int .i64 v))[j]? = some u) : W.cell? (ad.add j) = some u := by
  rw [List.getElem?_replicate] at hj
  split at hj
  · have hj0 : j = 0 := by omega
    subst hj0
    injection hj with hj
    subst hj
    rw [show ad.add 0 = ad from by cases ad; simp [Addr.add]]
    exact h
  · cases hj
theorem rep_cells_row {W : World} {g : Nat} {v : Int} {m k n : Nat} {t : TypeId} (h : W.heap[g]? = some (.cells (repRow v m n).toArray t (0, 0))) (hk : k ≤ m) (j : Nat) (u : Value) (hj : (List.replicate k (Value.int .i64 v))[j]? = some u) : W.cell? ((⟨g, 0, none⟩ : Addr).add j) = some u := by
  rw [List.getElem?_replicate] at hj
  split at hj
  · rename_i hjk
    injection hj with hj
    subst hj
    rw [add_plain, cell_of_row W g j _ t (0, 0) h]
    simp [repRow, List.getElem?_append, List.getElem?_replicate, Nat.lt_of_lt_of_le hjk hk]
  · cases hj
theorem rep_wrap {m n : Nat} (hlt : m < n) (hn : n ≤ 2000) : wrap64 ((m : Int) + ((Nat.min m (n - m) : Nat) : Int)) = ((m + Nat.min m (n - m) : Nat) : Int) := by
  have h : Nat.min m (n - m) ≤ n - m := Nat.min_le_right _ _
  rw [IntWalk.wrap64_in _ (by omega)]
  exact (Int.natCast_add _ _).symm
theorem rep_measure {m n : Nat} (hlt : m < n) (h0 : 0 < m) : n - (intOf (Value.int .i64 ((m + Nat.min m (n - m) : Nat) : Int))).toNat < n - (intOf (Value.int .i64 (m : Int))).toNat := by
  show n - (m + min m (n - m)) < n - m
  omega
set_option maxHeartbeats 4000000 in
set_option maxRecDepth 100000 in
theorem slices_Repeat_one (ad : Addr) (c : Nat) (v : Int) (n : Nat) (w : World) (hc : w.cell? ad = some (.int .i64 v)) (hn : n ≤ 2000) :
    Calls Try.prog 82 #[.slice (some ad) 1 c, .int .i64 n] w fun e w' => ∃ v0_ : Value, e = .returned v0_ ∧ Kd.R (Kd.int .i64) 3 w' w.heap.size (fun _ => True) v0_ (List.replicate n v) ∧ Below w.heap.size w w' := by
  obtain ⟨i0, hi0, hz0⟩ := Option.map_eq_some_iff.1 info3
  simp only [Prod.mk.injEq] at hz0
  obtain ⟨hz, hsz, hby⟩ := hz0
  have hmk : ∀ W : World, (Instr.makeSlice 49 (.int .i64 (n : Int)) (.int .i64 (n : Int))).run Try.prog W = .ok (.slice (some ⟨W.heap.size, 0, none⟩) n n) (W.alloc (.cells (List.replicate n (.int .i64 0)).toArray 3)) := by
    intro W
    have h := run_make (P := Try.prog) W 49 3 i0 (.int .i64 0) Try.underlying49 hi0 hz .i64 .i64 (n : Int) (n : Int) (by omega) (by omega) (by rw [hby]; omega) (by omega)
    rw [h, hsz]
    simp only [Int.toNat_natCast]
    rw [show (Value.int IntKind.i64 0).cells = #[Value.int .i64 0] from rfl, madeCells_one]
  have Hc := Aside0.mk hc
  clear hc hi0 hz hsz hby i0
  have p1 : decide ((n : Int) < 0) = false := decide_eq_false (by omega)
  go_enter Try.func82, Try.ntmps82
  go_wp2_with fail
  refine (Try.bits_Mul 1 n (by omega) (by omega) _).mono ?_
  rintro e w1 ⟨rfl, he⟩
  obtain rfl := he.symm
  clear he
  rw [show ((1 * n / 18446744073709551616 : Nat) : Int) = 0 from by omega, show ((1 * n % 18446744073709551616 : Nat) : Int) = (n : Int) from by omega]
  go_wp2_with ((with_reducible refine gate_builtin (b := .copy) (xs := #[.tmp 31, .tmp 32]) rfl ?_); refine wpList_copy_splice rfl _ _ 49 49 rfl 3 Try.underlying49 (by kernel_rfl) (some ⟨w.heap.size, 0, none⟩) (some ad) n n 1 c rfl rfl w.heap.size 0 (repRow v 0 n) 3 ?c0 (List.replicate (Nat.min 1 n) (.int .i64 v)) ?c1 ?c2 ?c3 ?c4 w.heap.size w ?c5 (Nat.le_refl _) ?_; (case c0 => exact blk_new _ _); (case c1 => exact List.length_replicate); (case c3 => rw [repRow_length v (Nat.zero_le n), List.length_replicate, Nat.zero_add]; exact Nat.min_le_right 1 n); (case c4 => intro u hu; rw [List.eq_of_mem_replicate hu]; rfl); (case c5 => exact below_alloc (Below.refl _ _) _); (case c2 => exact fun _ => ⟨rfl, ad, rfl, rep_cells (cell_alloc_of Hc.out _) (Nat.min_le_left 1 n)⟩); intro w1 HG1 hb1; have HB1 := Aside0.mk hb1; clear hb1)
  rw [splice_rep v (by show 0 + min 1 n ≤ n; omega), Nat.zero_add] at HG1
  go_loopw [8] (fun t8 W => ∃ m : Nat, t8 = .int .i64 m ∧ m ≤ n ∧ (0 < n → 0 < m) ∧ Aside0 (W.heap[w.heap.size]? = some (.cells (repRow v m n).toArray 3 (0, 0))) ∧ Aside0 (Below w.heap.size w W)) (fun t8 _ => n - (intOf t8).toNat)
  case atStart => exact ⟨Nat.min 1 n, rfl, Nat.min_le_right 1 n, fun h => Nat.lt_min.2 ⟨by omega, h⟩, ⟨HG1.out⟩, HB1⟩
  case round =>
    obtain ⟨m, rfl, hm, hm0, HG, HB⟩ := hrel
    clear HG1 HB1
    by_cases hlt : m < n
    · go_wp2
      have hne : ¬ n = m := by omega
      have hmin : Nat.min m (n - m) ≤ n - m := Nat.min_le_right _ _
      refine start_ (n := 10) (S := fun w' => True) (ds := []) #[false, false, false, false, false, false, false, false, false, false] (by kernel_rfl) rfl rfl trivial (fun hHeld => ?_)
      refine pure_ (i := 0) (N := some 38) (v := ?_) (a' := ?_) #[true, false, false, false, false, false, false, false, false, false] rfl rfl (by kernel_rfl) (fun _ _ _ h => h) (Or.inl ⟨by rfl, ?_⟩) ?_ ?_
      rotate_left
      · intro w'
        go_simp
        with_reducible rfl
      rotate_left
      · simp only [Act.put, List.setIfInBounds_toArray, List.set_cons_zero, List.set_cons_succ, i64_w, i32_w]
        rfl
      refine pure_ (i := 1) (N := some 39) (v := ?_) (a' := ?_) #[true, true, false, false, false, false, false, false, false, false] rfl rfl (by kernel_rfl) (fun _ _ _ h => h) (Or.inl ⟨by rfl, ?_⟩) ?_ ?_
      rotate_left
      · intro w'
        go_simp
        with_reducible rfl
      rotate_left
      · simp only [Act.put, List.setIfInBounds_toArray, List.set_cons_zero, List.set_cons_succ, i64_w, i32_w]
        rfl
      refine pure_ (i := 2) (N := some 40) (v := ?_) (a' := ?_) #[true, true, true, false, false, false, false, false, false, false] rfl rfl (by kernel_rfl) (fun _ _ _ h => h) (Or.inl ⟨by rfl, ?_⟩) ?_ ?_
      rotate_left
      · intro w'
        go_simp
        with_reducible rfl
      rotate_left
      · simp only [Act.put, List.setIfInBounds_toArray, List.set_cons_zero, List.set_cons_succ, i64_w, i32_w]
        rfl
      refine pure_ (i := 3) (N := some 41) (v := ?_) (a' := ?_) #[true, true, true, true, false, false, false, false, false, false] rfl rfl (by kernel_rfl) (fun _ _ _ h => h) (Or.inl ⟨by rfl, ?_⟩) ?_ ?_
      rotate_left
      · intro w'
        go_simp
        with_reducible rfl
      rotate_left
      · simp only [Act.put, List.setIfInBounds_toArray, List.set_cons_zero, List.set_cons_succ, i64_w, i32_w]
        rfl
      refine pure_ (i := 4) (N := some 42) (v := ?_) (a' := ?_) #[true, true, true, true, true, false, false, false, false, false] rfl rfl (by kernel_rfl) (fun _ _ _ h => h) (Or.inl ⟨by rfl, ?_⟩) ?_ ?_
      rotate_left
      · intro w'
        go_simp
        with_reducible rfl
      rotate_left
      · simp only [Act.put, List.setIfInBounds_toArray, List.set_cons_zero, List.set_cons_succ, i64_w, i32_w]
        rfl
      refine pure_ (i := 5) (N := some 43) (v := ?_) (a' := ?_) #[true, true, true, true, true, true, false, false, false, false] rfl rfl (by kernel_rfl) (fun _ _ _ h => h) (Or.inl ⟨by rfl, ?_⟩) ?_ ?_
      rotate_left
      · intro w'
        go_simp
        with_reducible rfl
      rotate_left
      · simp only [Act.put, List.setIfInBounds_toArray, List.set_cons_zero, List.set_cons_succ, i64_w, i32_w]
        rfl
      refine pure_ (i := 6) (N := some 44) (v := ?_) (a' := ?_) #[true, true, true, true, true, true, true, false, false, false] rfl rfl (by kernel_rfl) (fun _ _ _ h => h) (Or.inl ⟨by rfl, ?_⟩) ?_ ?_
      rotate_left
      · intro w'
        go_simp
        with_reducible rfl
      rotate_left
      · simp only [Act.put, List.setIfInBounds_toArray, List.set_cons_zero, List.set_cons_succ, i64_w, i32_w]
        rfl
      refine one_ (i := 7) (N := some 45) #[true, true, true, true, true, true, true, true, false, false] rfl rfl (by kernel_rfl) (by decide) (fun K hK => ?_)
      refine step_copy_splice rfl (.tmp 41) (.tmp 44) 49 49 rfl 3 Try.underlying49 (by kernel_rfl) (some ⟨w.heap.size, m, none⟩) (some ⟨w.heap.size, 0, none⟩) (n - m) (n - m) m n (by simp [Act.eval, Act.put]) (by simp [Act.eval, Act.put]) w.heap.size m (repRow v m n) 3 HG.out (List.replicate (Nat.min m (n - m)) (.int .i64 v)) (by simp) (fun _ => ⟨rfl, _, rfl, rep_cells_row HG.out (Nat.min_le_left _ _)⟩) (by rw [repRow_length v hm, List.length_replicate]; show m + min m (n - m) ≤ n; omega) (by intro u hu; rw [List.eq_of_mem_replicate hu]; rfl) w.heap.size w HB.out.drew (Nat.le_refl _) ?_
      intro w3 HG3 hb3
      refine hK.out _ _ trivial (fun hHeld => ?_)
      clear hK K
      refine norm_ (a' := ?_) ?_ ?_
      rotate_left
      · show Act.put _ (some 45) _ = _
        simp only [Act.put, List.setIfInBounds_toArray, List.set_cons_zero, List.set_cons_succ, i64_w, i32_w]
        rfl
      refine pure_ (i := 8) (N := some 46) (v := ?_) (a' := ?_) #[true, true, true, true, true, true, true, true, true, false] rfl rfl (by kernel_rfl) (fun _ _ _ h => h) (Or.inl ⟨by rfl, ?_⟩) ?_ ?_
      rotate_left
      · intro w'
        go_simp
        with_reducible rfl
      rotate_left
      · simp only [Act.put, List.setIfInBounds_toArray, List.set_cons_zero, List.set_cons_succ, i64_w, i32_w]
        rfl
      refine pure_ (i := 9) (N := some 8) (v := ?_) (a' := ?_) #[true, true, true, true, true, true, true, true, true, true] rfl rfl (by kernel_rfl) (fun _ _ _ h => h) (Or.inl ⟨by rfl, ?_⟩) ?_ ?_
      rotate_left
      · intro w'
        go_simp
        with_reducible rfl
      rotate_left
      · simp only [Act.put, List.setIfInBounds_toArray, List.set_cons_zero, List.set_cons_succ, i64_w, i32_w]
        rfl
      refine done_ (by kernel_rfl) ?_

      rw [splice_rep v (by show m + min m (n - m) ≤ n; omega)] at HG3
      have HB3 := Aside0.mk hb3
      have hw := rep_wrap hlt hn
      clear hb3 HB HG
      go_wp2
      go_roundw
      case measure =>
        rw [hw]
        exact rep_measure hlt (hm0 (by omega))
      case rel => exact ⟨m + Nat.min m (n - m), by rw [hw], by show m + min m (n - m) ≤ n; omega, by intro h; have := hm0 h; omega, ⟨HG3.out⟩, HB3⟩
    · obtain rfl : m = n := by omega
      go_wp2
      go_ret
      refine ⟨_, rfl, ?_, HB.out⟩
      have h := HG.out
      simp only [repRow, Nat.sub_self, List.replicate_zero, List.append_nil] at h
      rw [← List.map_replicate] at h
      have h2 := R_int_of_cells h (Nat.le_refl _) (by rw [List.length_replicate]; unfold maxLen; omega)
      rwa [List.length_replicate] at h2
end Go.Proofs.Ytnlekganlliikaa.X
