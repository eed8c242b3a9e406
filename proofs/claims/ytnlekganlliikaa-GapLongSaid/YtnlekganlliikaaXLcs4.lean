/-
  (*lcs.Pair).reckon: by hand.
-/
import Derived.Test.YtnlekganlliikaaXLcs3
import Derived.BigRegion
namespace Go.Proofs.Ytnlekganlliikaa.X
open Go.RowKit Go.Proofs.YtnlekganlliikaaW.PrintWords Go.Proofs.YtnlekganlliikaaW.PrintLast Go.Proofs.YtnlekganlliikaaW.PrintMore
set_option linter.unusedVariables false
set_option linter.unusedSimpArgs false

/-- A block of numbers. -/
def NumsAt (k : IntKind) (W : World) (t g : Nat) (L : List Int) : Prop := W.heap[g]? = some (.cells (L.map (Value.int k)).toArray t (0, 0))
/-- The two rows, and the variable that holds them. -/
def RowsAt (W : World) (N g3 g0 g1 m : Nat) (L0 L1 : List Int) : Prop :=
  N ≤ g3 ∧ N ≤ g0 ∧ N ≤ g1 ∧ g3 ≠ g0 ∧ g3 ≠ g1 ∧ g0 ≠ g1 ∧
    W.heap[g3]? = some (.cells #[.slice (some ⟨g0, 0, none⟩) (m + 1) (m + 1), .slice (some ⟨g1, 0, none⟩) (m + 1) (m + 1)] 130 (0, 0)) ∧
    NumsAt .i64 W 3 g0 L0 ∧ NumsAt .i64 W 3 g1 L1 ∧ L0.length = m + 1 ∧ L1.length = m + 1

theorem alloc3 (w : World) (o0 o1 o2 : Obj) : (((w.alloc o0).alloc o1).alloc o2).drew.heap[w.heap.size]? = some o0 ∧ (((w.alloc o0).alloc o1).alloc o2).drew.heap[w.heap.size + 1]? = some o1 ∧ (((w.alloc o0).alloc o1).alloc o2).drew.heap[w.heap.size + 1 + 1]? = some o2 ∧ Below w.heap.size w (((w.alloc o0).alloc o1).alloc o2).drew := by
  refine ⟨?_, ?_, ?_, (below_alloc (below_alloc (below_alloc (Below.refl _ _) _) _) _).drew⟩
  · show (((w.heap.push o0).push o1).push o2)[w.heap.size]? = _
    simp only [Array.getElem?_push, Array.size_push]
    rw [if_neg (by omega), if_neg (by omega), if_pos trivial]
  · show (((w.heap.push o0).push o1).push o2)[w.heap.size + 1]? = _
    simp only [Array.getElem?_push, Array.size_push]
    rw [if_neg (by omega), if_pos trivial]
  · show (((w.heap.push o0).push o1).push o2)[w.heap.size + 1 + 1]? = _
    simp only [Array.getElem?_push, Array.size_push]
    rw [if_pos trivial]
theorem nums_rep {k : IntKind} {W : World} {t g n : Nat} (h : W.heap[g]? = some (.cells (Array.replicate n (Value.int k 0)) t (0, 0))) : NumsAt k W t g (List.replicate n 0) := by
  unfold NumsAt
  rw [h]
  simp

theorem grown_far {w W : World} {g : Nat} (h : w.grownBy W (some g)) {p : Addr} (hp : w.heap.size ≤ p.block) (u : Value) : w.grownBy (W.setCell p u) (some g) :=
  ⟨h.os, h.tape, h.output, by rw [show (W.setCell p u).heap.size = W.heap.size by simp]; exact h.size, fun i hi hn => (Below.heap_setCell W p u i (by omega)).trans (h.block i hi hn)⟩
theorem grown_set {w W : World} {g : Nat} (h : w.grownBy W (some g)) (j : Nat) (u : Value) : w.grownBy (W.setCell ⟨g, j, none⟩ u) (some g) :=
  ⟨h.os, h.tape, h.output, by rw [show (W.setCell ⟨g, j, none⟩ u).heap.size = W.heap.size by simp]; exact h.size, fun i hi hn => (Below.heap_setCell W ⟨g, j, none⟩ u i (fun e => hn (by rw [e]))).trans (h.block i hi hn)⟩
theorem grown_drewN {w W : World} {g : Nat} (h : w.grownBy W (some g)) (m : Nat) : w.grownBy (W.drewN m) (some g) := ⟨h.os, h.tape, h.output, h.size, h.block⟩
theorem grown_then {w W W2 : World} {g : Nat} (h : w.grownBy W (some g)) (k : W.grownBy W2 (some g)) : w.grownBy W2 (some g) :=
  ⟨k.os.trans h.os, k.tape.trans h.tape, k.output.trans h.output, Nat.le_trans h.size k.size, fun i hi hn => (k.block i (Nat.lt_of_lt_of_le hi h.size) hn).trans (h.block i hi hn)⟩
theorem grown_alloc {w W : World} {g : Nat} (h : w.grownBy W (some g)) (o : Obj) : w.grownBy (W.alloc o) (some g) :=
  grown_then h (World.grownBy_alloc W o _)

/-- Memory while it is reckoned. -/
def RState (w W : World) (g g3 g0 g1 gs : Nat) (sa sb x2 x3 x4 : Value) (nm m : Nat) (L0 L1 S : List Int) : Prop :=
  (w.heap.size ≤ gs ∧ gs ≠ g3 ∧ gs ≠ g0 ∧ gs ≠ g1 ∧ g < w.heap.size) ∧ RowsAt W w.heap.size g3 g0 g1 m L0 L1 ∧
    W.heap[g]? = some (.cells #[sa, sb, x2, x3, x4, .slice (some ⟨gs, 0, none⟩) nm nm, .int .i64 0] 103 (0, 0)) ∧ (NumsAt .u8 W 5 gs S ∧ S.length = nm) ∧ w.grownBy W (some g)

theorem nums_set {k : IntKind} {W : World} {t g : Nat} {L : List Int} (h : NumsAt k W t g L) (j : Nat) (v : Int) : NumsAt k (W.setCell ⟨g, j, none⟩ (.int k v)) t g (L.set j v) := by
  unfold NumsAt
  rw [heap_set_same h]
  simp [List.map_set]
theorem nums_other {k : IntKind} {W : World} {t g g' j : Nat} {L : List Int} (h : NumsAt k W t g L) (hne : g ≠ g') (v : Value) : NumsAt k (W.setCell ⟨g', j, none⟩ v) t g L := by
  unfold NumsAt
  rw [heap_set_other hne]
  exact h
theorem nums_cell {k : IntKind} {W : World} {t g : Nat} {L : List Int} (h : NumsAt k W t g L) {j : Nat} {v : Int} (hj : L[j]? = some v) : W.cell? ⟨g, j, none⟩ = some (.int k v) := by
  refine cell_blk h ?_
  simp [hj]

section
variable {w W : World} {g g3 g0 g1 gs : Nat} {sa sb x2 x3 x4 : Value} {nm m : Nat} {L0 L1 S : List Int}
theorem RState.row (h : RState w W g g3 g0 g1 gs sa sb x2 x3 x4 nm m L0 L1 S) (j : Nat) (v : Int) : RState w (W.setCell ⟨g1, j, none⟩ (.int .i64 v)) g g3 g0 g1 gs sa sb x2 x3 x4 nm m L0 (L1.set j v) S := by
  obtain ⟨⟨e1, e2, e3, e4, e5⟩, ⟨r1, r2, r3, r4, r5, r6, r7, r8, r9, r10, r11⟩, hg, ⟨hs, hsl⟩, hk⟩ := h
  refine ⟨⟨e1, e2, e3, e4, e5⟩, ⟨r1, r2, r3, r4, r5, r6, ?_, nums_other r8 r6 _, nums_set r9 j v, r10, by simpa using r11⟩, ?_, ⟨nums_other hs e4 _, hsl⟩, grown_far hk r3 _⟩
  · rw [heap_set_other r5]; exact r7
  · rw [heap_set_other (by omega)]; exact hg
theorem RState.step (h : RState w W g g3 g0 g1 gs sa sb x2 x3 x4 nm m L0 L1 S) (j : Nat) (v : Int) : RState w (W.setCell ⟨gs, j, none⟩ (.int .u8 v)) g g3 g0 g1 gs sa sb x2 x3 x4 nm m L0 L1 (S.set j v) := by
  obtain ⟨⟨e1, e2, e3, e4, e5⟩, ⟨r1, r2, r3, r4, r5, r6, r7, r8, r9, r10, r11⟩, hg, ⟨hs, hsl⟩, hk⟩ := h
  refine ⟨⟨e1, e2, e3, e4, e5⟩, ⟨r1, r2, r3, r4, r5, r6, ?_, nums_other r8 (Ne.symm e3) _, nums_other r9 (Ne.symm e4) _, r10, r11⟩, ?_, ⟨nums_set hs j v, by simpa using hsl⟩, grown_far hk e1 _⟩
  · rw [heap_set_other (Ne.symm e2)]; exact r7
  · rw [heap_set_other (by omega)]; exact hg
theorem RState.drewN (h : RState w W g g3 g0 g1 gs sa sb x2 x3 x4 nm m L0 L1 S) (n : Nat) : RState w (W.drewN n) g g3 g0 g1 gs sa sb x2 x3 x4 nm m L0 L1 S := by
  obtain ⟨e, r, hg, hs, hk⟩ := h
  exact ⟨e, r, hg, hs, grown_drewN hk n⟩
theorem RState.swap (h : RState w W g g3 g0 g1 gs sa sb x2 x3 x4 nm m L0 L1 S) : RState w ((W.setCell ⟨g3, 0, none⟩ (.slice (some ⟨g1, 0, none⟩) (m + 1) (m + 1))).setCell ⟨g3, 1, none⟩ (.slice (some ⟨g0, 0, none⟩) (m + 1) (m + 1))) g g3 g1 g0 gs sa sb x2 x3 x4 nm m L1 L0 S := by
  obtain ⟨⟨e1, e2, e3, e4, e5⟩, ⟨r1, r2, r3, r4, r5, r6, r7, r8, r9, r10, r11⟩, hg, ⟨hs, hsl⟩, hk⟩ := h
  refine ⟨⟨e1, e2, e4, e3, e5⟩, ⟨r1, r3, r2, r5, r4, Ne.symm r6, ?_, nums_other (nums_other r9 (Ne.symm r5) _) (Ne.symm r5) _, nums_other (nums_other r8 (Ne.symm r4) _) (Ne.symm r4) _, r11, r10⟩, ?_, ⟨nums_other (nums_other hs e2 _) e2 _, hsl⟩, grown_far (grown_far hk r1 _) r1 _⟩
  · rw [heap_set_same (heap_set_same r7 _)]; rfl
  · rw [heap_set_other (by omega), heap_set_other (by omega)]; exact hg
end

theorem elem_cell {W : World} {A : Option Addr} {xs : List Int} {i : Nat} {x : Int} (h : Kd.C (Kd.int .i64) W A xs.length xs) (hx : xs[i]? = some x) : ∃ ad, A = some ad ∧ W.cell? (ad.add i) = some (.int .i64 x) := by
  have hi := (List.getElem?_eq_some_iff.1 hx).1
  obtain ⟨ad, e, hc⟩ := Kd.at_int h (i : Int) (by omega) (by omega)
  refine ⟨ad, e, ?_⟩
  rw [Int.toNat_natCast] at hc
  rw [hc]
  simp [rd, hx]

/-- A row from the place q on. -/
def RowFrom (a b : List Int) (i q : Nat) (L : List Int) : Prop := ∀ j, q ≤ j → j ≤ b.length → L[j]? = some ((lcsL (a.drop i) (b.drop j) : Nat) : Int)
/-- The steps from the place c on; noughts ahead. -/
def StepsFrom (a b : List Int) (c : Nat) (S : List Int) : Prop := ∀ x, x < a.length * b.length → S[x]? = some (if x < c then 0 else stepAt (a.drop (x / b.length)) (b.drop (x % b.length)))

theorem place_div {m i j : Nat} (hj : j < m) : (i * m + j) / m = i ∧ (i * m + j) % m = j := by
  constructor
  · rw [Nat.mul_comm, Nat.mul_add_div (by omega), Nat.div_eq_of_lt hj, Nat.add_zero]
  · rw [Nat.mul_comm, Nat.mul_add_mod, Nat.mod_eq_of_lt hj]
theorem place_lt {n m i j : Nat} (hi : i < n) (hj : j < m) : i * m + j < n * m := by
  have : (i + 1) * m ≤ n * m := Nat.mul_le_mul_right _ hi
  rw [Nat.succ_mul] at this
  omega
theorem drop_cons' {l : List Int} {i : Nat} {x : Int} (h : l[i]? = some x) : l.drop i = x :: l.drop (i + 1) := by
  obtain ⟨hl, rfl⟩ := List.getElem?_eq_some_iff.1 h
  exact List.drop_eq_getElem_cons hl

section
variable {a b L0 L1 S : List Int} {i j : Nat} {x y : Int}
theorem row_one (h : RowFrom a b i (j + 1) L1) (hj : j < b.length) (hl : L1.length = b.length + 1) {v : Int} (hv : v = ((lcsL (a.drop i) (b.drop j) : Nat) : Int)) : RowFrom a b i j (L1.set j v) := by
  intro k hk hkb
  rcases Nat.lt_or_ge j k with h1 | h1
  · rw [List.getElem?_set_ne (by omega)]
    exact h k h1 hkb
  · obtain rfl : k = j := by omega
    rw [List.getElem?_set_self (by omega), hv]
theorem lcs_eq (hx : a[i]? = some x) (hy : b[j]? = some y) (e : x = y) : lcsL (a.drop i) (b.drop j) = lcsL (a.drop (i + 1)) (b.drop (j + 1)) + 1 := by
  rw [drop_cons' hx, drop_cons' hy, lcsL_cons, if_pos e]
theorem lcs_ne (hx : a[i]? = some x) (hy : b[j]? = some y) (e : ¬ x = y) : lcsL (a.drop i) (b.drop j) = max (lcsL (a.drop (i + 1)) (b.drop j)) (lcsL (a.drop i) (b.drop (j + 1))) := by
  rw [drop_cons' hx, drop_cons' hy, lcsL_cons, if_neg e]
theorem step_eq (hx : a[i]? = some x) (hy : b[j]? = some y) (e : x = y) : stepAt (a.drop i) (b.drop j) = 0 := by
  rw [drop_cons' hx, drop_cons' hy, stepAt, if_pos e]
theorem step_old (hx : a[i]? = some x) (hy : b[j]? = some y) (e : ¬ x = y) (h : lcsL (a.drop i) (b.drop (j + 1)) ≤ lcsL (a.drop (i + 1)) (b.drop j)) : stepAt (a.drop i) (b.drop j) = 1 := by
  rw [drop_cons' hx, drop_cons' hy, stepAt, if_neg e, if_pos]
  rwa [← drop_cons' hx, ← drop_cons' hy]
theorem step_fresh (hx : a[i]? = some x) (hy : b[j]? = some y) (e : ¬ x = y) (h : ¬ lcsL (a.drop i) (b.drop (j + 1)) ≤ lcsL (a.drop (i + 1)) (b.drop j)) : stepAt (a.drop i) (b.drop j) = 2 := by
  rw [drop_cons' hx, drop_cons' hy, stepAt, if_neg e, if_neg]
  rwa [← drop_cons' hx, ← drop_cons' hy]
theorem steps_same (h : StepsFrom a b (i * b.length + (j + 1)) S) (hj : j < b.length) (hs : stepAt (a.drop i) (b.drop j) = 0) : StepsFrom a b (i * b.length + j) S := by
  intro k hk
  rw [h k hk]
  by_cases e : k = i * b.length + j
  · subst e
    rw [if_pos (by omega), if_neg (by omega), (place_div hj).1, (place_div hj).2, hs]
  · by_cases h2 : k < i * b.length + j
    · rw [if_pos (by omega), if_pos h2]
    · rw [if_neg (by omega), if_neg h2]
theorem steps_one (h : StepsFrom a b (i * b.length + (j + 1)) S) (hj : j < b.length) (hl : S.length = a.length * b.length) {v : Int} (hs : stepAt (a.drop i) (b.drop j) = v) : StepsFrom a b (i * b.length + j) (S.set (i * b.length + j) v) := by
  intro k hk
  by_cases e : k = i * b.length + j
  · subst e
    rw [List.getElem?_set_self (by omega), if_neg (by omega), (place_div hj).1, (place_div hj).2, hs]
  · rw [List.getElem?_set_ne (Ne.symm e), h k hk]
    by_cases h2 : k < i * b.length + j
    · rw [if_pos (by omega), if_pos h2]
    · rw [if_neg (by omega), if_neg h2]
end

set_option maxHeartbeats 8000000 in
set_option maxRecDepth 100000 in
theorem reckon_calls (g N : Nat) (Aa Ab : Option Addr) (ca cb : Nat) (x2 x3 x4 : Value) (a b : List Int) (w : World)
    (hg : w.heap[g]? = some (.cells #[.slice Aa a.length ca, .slice Ab b.length cb, x2, x3, x4, .slice none 0 0, .int .i64 0] 103 (0, 0)))
    (ha : Kd.F (Kd.int .i64) w (fun k => k ≠ g) Aa a.length a) (hb : Kd.F (Kd.int .i64) w (fun k => k ≠ g) Ab b.length b) (hla : a.length ≤ 2000) (hlb : b.length ≤ 2000) :
    Calls Try.prog 59 #[.pointer (some ⟨g, 0, none⟩)] w fun e w' => e = .returned (.tuple #[]) ∧ (∃ gs : Nat, w.heap.size ≤ gs ∧ w'.heap[g]? = some (.cells #[.slice Aa a.length ca, .slice Ab b.length cb, x2, x3, x4, .slice (some ⟨gs, 0, none⟩) (a.length * b.length) (a.length * b.length), .int .i64 (lcsL a b : Int)] 103 (0, 0)) ∧ NumsAt .u8 w' 5 gs (stepsOf a b)) ∧ w.grownBy w' (some g) := by
  have Hg := Aside0.mk hg
  have Ha := Aside0.mk ha
  have Hb := Aside0.mk hb
  have c1 : w.cell? ⟨g, 1, none⟩ = some (.slice Ab b.length cb) := cell_blk hg rfl
  clear hg ha hb
  obtain ⟨i0, hi0, hz0⟩ := Option.map_eq_some_iff.1 info3
  simp only [Prod.mk.injEq] at hz0
  obtain ⟨hz, hsz, hby⟩ := hz0
  have hmk : ∀ W : World, (Instr.makeSlice 49 (.int .i64 ((b.length : Int) + 1)) (.int .i64 ((b.length : Int) + 1))).run Try.prog W = .ok (.slice (some ⟨W.heap.size, 0, none⟩) (b.length + 1) (b.length + 1)) (W.alloc (.cells ((List.replicate (b.length + 1) 0).map (Value.int .i64)).toArray 3)) := by
    intro W
    have h := run_make (P := Try.prog) W 49 3 i0 (.int .i64 0) Try.underlying49 hi0 hz .i64 .i64 ((b.length : Int) + 1) ((b.length : Int) + 1) (by omega) (by omega) (by rw [hby]; omega) (by omega)
    rw [h, hsz]
    simp only [show ((b.length : Int) + 1).toNat = b.length + 1 from by omega]
    rw [show (Value.int IntKind.i64 0).cells = #[Value.int .i64 0] from rfl, madeCells_one, List.map_replicate]
  obtain ⟨j0, hj0, hy0⟩ := Option.map_eq_some_iff.1 info5
  simp only [Prod.mk.injEq] at hy0
  obtain ⟨hyz, hysz, hyby⟩ := hy0
  have hp1 : (a.length : Int) * (b.length : Int) ≤ 4000000 := by
    have := Nat.mul_le_mul hla hlb
    rw [← Int.natCast_mul]
    omega
  have hp0 : 0 ≤ (a.length : Int) * (b.length : Int) := by
    rw [← Int.natCast_mul]
    omega
  have hmk2 : ∀ W : World, (Instr.makeSlice 65 (.int .i64 ((a.length : Int) * (b.length : Int))) (.int .i64 ((a.length : Int) * (b.length : Int)))).run Try.prog W = .ok (.slice (some ⟨W.heap.size, 0, none⟩) (a.length * b.length) (a.length * b.length)) (W.alloc (.cells ((List.replicate (a.length * b.length) 0).map (Value.int .u8)).toArray 5)) := by
    intro W
    have h := run_make (P := Try.prog) W 65 5 j0 (.int .u8 0) Try.underlying65 hj0 hyz .i64 .i64 ((a.length : Int) * (b.length : Int)) ((a.length : Int) * (b.length : Int)) hp0 (by omega) (by rw [hyby]; omega) (by omega)
    rw [h, hysz]
    simp only [show ((a.length : Int) * (b.length : Int)).toNat = a.length * b.length from by rw [← Int.natCast_mul]; exact Int.toNat_natCast _]
    rw [show (Value.int IntKind.u8 0).cells = #[Value.int .u8 0] from rfl, madeCells_one, List.map_replicate]
  clear hi0 hz hsz hby i0 hj0 hyz hysz hyby j0
  go_enter Try.func59, Try.ntmps59
  go_upto_region 1 with fail
  go_cut [3] (fun s3 W => ∃ g3 g0 g1 : Nat, s3 = .pointer (some ⟨g3, 0, none⟩) ∧ Aside0 (RowsAt W w.heap.size g3 g0 g1 b.length (List.replicate (b.length + 1) 0) (List.replicate (b.length + 1) 0)) ∧ Aside0 (Below w.heap.size w W))
  case first =>
    go_region
    all_goals
      go_wp2_with fail
      go_meet
      first
      | exact ⟨w.heap.size, w.heap.size + 1, w.heap.size + 1 + 1, rfl, ⟨⟨by omega, by omega, by omega, by omega, by omega, by omega, (alloc3 w _ _ _).1, nums_rep (alloc3 w _ _ _).2.1, nums_rep (alloc3 w _ _ _).2.2.1, by simp, by simp⟩⟩, ⟨(alloc3 w _ _ _).2.2.2⟩⟩
      | exact ⟨w.heap.size, w.heap.size + 1 + 1, w.heap.size + 1, rfl, ⟨⟨by omega, by omega, by omega, by omega, by omega, by omega, (alloc3 w _ _ _).1, nums_rep (alloc3 w _ _ _).2.2.1, nums_rep (alloc3 w _ _ _).2.1, by simp, by simp⟩⟩, ⟨(alloc3 w _ _ _).2.2.2⟩⟩
      | exact ⟨w.heap.size + 1, w.heap.size, w.heap.size + 1 + 1, rfl, ⟨⟨by omega, by omega, by omega, by omega, by omega, by omega, (alloc3 w _ _ _).2.1, nums_rep (alloc3 w _ _ _).1, nums_rep (alloc3 w _ _ _).2.2.1, by simp, by simp⟩⟩, ⟨(alloc3 w _ _ _).2.2.2⟩⟩
      | exact ⟨w.heap.size + 1, w.heap.size + 1 + 1, w.heap.size, rfl, ⟨⟨by omega, by omega, by omega, by omega, by omega, by omega, (alloc3 w _ _ _).2.1, nums_rep (alloc3 w _ _ _).2.2.1, nums_rep (alloc3 w _ _ _).1, by simp, by simp⟩⟩, ⟨(alloc3 w _ _ _).2.2.2⟩⟩
      | exact ⟨w.heap.size + 1 + 1, w.heap.size, w.heap.size + 1, rfl, ⟨⟨by omega, by omega, by omega, by omega, by omega, by omega, (alloc3 w _ _ _).2.2.1, nums_rep (alloc3 w _ _ _).1, nums_rep (alloc3 w _ _ _).2.1, by simp, by simp⟩⟩, ⟨(alloc3 w _ _ _).2.2.2⟩⟩
      | exact ⟨w.heap.size + 1 + 1, w.heap.size + 1, w.heap.size, rfl, ⟨⟨by omega, by omega, by omega, by omega, by omega, by omega, (alloc3 w _ _ _).2.2.1, nums_rep (alloc3 w _ _ _).2.1, nums_rep (alloc3 w _ _ _).1, by simp, by simp⟩⟩, ⟨(alloc3 w _ _ _).2.2.2⟩⟩
  case rest =>
    obtain ⟨g3, g0, g1, rfl, HR, HB⟩ := hcut
    have hgc : wc.heap[g]? = _ := (HB.out.block g (blk_lt Hg.out)).trans Hg.out
    have d0 : wc.cell? ⟨g, 0, none⟩ = some (.slice Aa a.length ca) := cell_blk hgc rfl
    have d1 : wc.cell? ⟨g, 1, none⟩ = some (.slice Ab b.length cb) := cell_blk hgc rfl
    have d5 : wc.cell? ⟨g, 5, none⟩ = some (.slice none 0 0) := cell_blk hgc rfl
    have f5 : wc.frozen? ⟨g, 5, none⟩ = false := blk_frozen hgc _
    have Hgc := Aside0.mk hgc
    clear hgc c1
    have hgw : g < wc.heap.size := blk_lt Hgc.out
    have hgne : g ≠ wc.heap.size := by omega
    go_wp2_with (first | ((with_reducible refine gate_dst (N := 28) rfl ?_); refine event_at (v := .slice (some ⟨wc.heap.size, 0, none⟩) (a.length * b.length) (a.length * b.length)) (w1 := wc.alloc (.cells ((List.replicate (a.length * b.length) 0).map (Value.int .u8)).toArray 5)) ?hg ?hr ?_; (case hg => rfl); (case hr => first | (go_simp; done) | (go_simp; rfl)); intro w1 HW1; (have e5 : w1.cell? ⟨g, 5, none⟩ = some (.slice none 0 0) := (by rw [HW1.out]; exact cell_alloc_of d5 _)); (have g5 : w1.frozen? ⟨g, 5, none⟩ = false := (by rw [HW1.out]; rw [World.frozen?_alloc_past _ _ _ hgw]; exact f5))) | ((with_reducible refine gate_store (t := 65) (p := 30) rfl ?_); refine store_at (t := 65) (p := 30) (v := ?vo_) (w1 := w1.setCell ⟨g, 5, none⟩ (.slice (some ⟨wc.heap.size, 0, none⟩) (a.length * b.length) (a.length * b.length))) ?hg ?ho ?hn ?hr ?_; (case ho => rfl); (case hg => rfl); (case hn => rfl); (case hr => first | (go_simp; done) | (go_simp; rfl)); intro w2 HW2; (have q0 : w2.cell? ⟨g, 0, none⟩ = some (.slice Aa a.length ca) := (by rw [HW2.out, HW1.out, World.cell?_setCell_other _ _ _ _ (by simp)]; exact cell_alloc_of d0 _))))
    have hst : RState w w2 g g3 g0 g1 wc.heap.size (.slice Aa a.length ca) (.slice Ab b.length cb) x2 x3 x4 (a.length * b.length) b.length (List.replicate (b.length + 1) 0) (List.replicate (b.length + 1) 0) (List.replicate (a.length * b.length) 0) := by
      obtain ⟨r1, r2, r3, r4, r5, r6, r7, r8, r9, r10, r11⟩ := HR.out
      have hlt : g < w.heap.size := blk_lt Hg.out
      have l3 := blk_lt r7
      have l0 := blk_lt r8
      have l1 := blk_lt r9
      have hal : ∀ k, k < wc.heap.size → (wc.alloc (.cells ((List.replicate (a.length * b.length) 0).map (Value.int .u8)).toArray 5)).heap[k]? = wc.heap[k]? := fun k hk => heap_alloc_old _ _ hk
      have hgn : w1.heap[g]? = some (.cells #[.slice Aa a.length ca, .slice Ab b.length cb, x2, x3, x4, .slice none 0 0, .int .i64 0] 103 (0, 0)) := by rw [HW1.out, hal g hgw]; exact Hgc.out
      refine ⟨⟨HB.out.size, by omega, by omega, by omega, hlt⟩, ⟨r1, r2, r3, r4, r5, r6, ?_, ?_, ?_, r10, r11⟩, ?_, ⟨?_, by simp⟩, ?_⟩
      · rw [HW2.out, heap_set_other (by omega), HW1.out, hal g3 l3]; exact r7
      · unfold NumsAt; rw [HW2.out, heap_set_other (by omega), HW1.out, hal g0 l0]; exact r8
      · unfold NumsAt; rw [HW2.out, heap_set_other (by omega), HW1.out, hal g1 l1]; exact r9
      · rw [HW2.out, heap_set_same hgn]; rfl
      · unfold NumsAt; rw [HW2.out, heap_set_other (by omega), HW1.out]; exact blk_new _ _
      · rw [HW2.out, HW1.out]; exact grown_set (grown_alloc (grown_of_below HB.out (some g)) _) _ _
    have HST := Aside0.mk hst
    clear hst HW1 HW2 HR HB
    go_loopw [4] (fun s4 W => ∃ (x4_ : Int) (g0_ g1_ : Nat) (L0 L1 S : List Int), s4 = .int .i64 x4_ ∧ -1 ≤ x4_ ∧ x4_ < (a.length : Int) ∧ Aside0 (RState w W g g3 g0_ g1_ wc.heap.size (.slice Aa a.length ca) (.slice Ab b.length cb) x2 x3 x4 (a.length * b.length) b.length L0 L1 S) ∧ Aside0 (RowFrom a b (x4_ + 1).toNat 0 L0) ∧ Aside0 (L1[b.length]? = some 0) ∧ Aside0 (StepsFrom a b ((x4_ + 1).toNat * b.length) S)) (fun s4 _ => (intOf s4 + 1).toNat)
    case atStart =>
      have hd : ((a.length : Int) - 1 + 1).toNat = a.length := by omega
      refine ⟨(a.length : Int) - 1, g0, g1, _, _, _, rfl, by omega, by omega, HST, ⟨?_⟩, ⟨?_⟩, ⟨?_⟩⟩
      · rw [hd]
        intro k hk1 hk2
        rw [List.getElem?_replicate, if_pos (by omega)]
        simp
      · rw [List.getElem?_replicate, if_pos (by omega)]
      · rw [hd]
        intro k hk
        rw [List.getElem?_replicate, if_pos hk, if_pos hk]
    case round =>
      obtain ⟨x4_, g0_, g1_, L0, L1, S, rfl, h1, h2, HS, HL0, HL1, HT⟩ := hrel
      by_cases hx : 0 ≤ x4_
      · obtain ⟨i, rfl⟩ := Int.eq_ofNat_of_zero_le hx
        have c30 : wr.cell? ⟨g3, 0, none⟩ = some (.slice (some ⟨g0_, 0, none⟩) (b.length + 1) (b.length + 1)) := cell_blk HS.out.2.1.2.2.2.2.2.2.1 rfl
        have c31 : wr.cell? ⟨g3, 1, none⟩ = some (.slice (some ⟨g1_, 0, none⟩) (b.length + 1) (b.length + 1)) := cell_blk HS.out.2.1.2.2.2.2.2.2.1 rfl
        go_wp2
        go_quiet (fail)
        go_wp2
        go_loopw [7] (fun s7 W => ∃ (x7 : Int) (L1' S' : List Int), s7 = .int .i64 x7 ∧ -1 ≤ x7 ∧ x7 < (b.length : Int) ∧ Aside0 (RState w W g g3 g0_ g1_ wc.heap.size (.slice Aa a.length ca) (.slice Ab b.length cb) x2 x3 x4 (a.length * b.length) b.length L0 L1' S') ∧ Aside0 (RowFrom a b i (x7 + 1).toNat L1') ∧ Aside0 (L1'[b.length]? = some 0) ∧ Aside0 (StepsFrom a b (i * b.length + (x7 + 1).toNat) S')) (fun s7 _ => (intOf s7 + 1).toNat)
        case atStart =>
          have hd : ((b.length : Int) - 1 + 1).toNat = b.length := by omega
          have hd2 : ((i : Int) + 1).toNat * b.length = i * b.length + b.length := by rw [show ((i : Int) + 1).toNat = i + 1 from by omega, Nat.succ_mul]
          refine ⟨(b.length : Int) - 1, L1, S, rfl, by omega, by omega, ⟨HS.out.drewN _⟩, ⟨?_⟩, HL1, ⟨?_⟩⟩
          · rw [hd]
            intro k hk1 hk2
            obtain rfl : k = b.length := by omega
            rw [HL1.out]
            simp
          · rw [hd, ← hd2]; exact HT.out
        case round =>
          clear HS HL1 HT c30 c31
          obtain ⟨x7, L1, S, rfl, h3, h4, HS, HR, HL1, HT⟩ := hrel
          by_cases hx7 : 0 ≤ x7
          · obtain ⟨j, rfl⟩ := Int.eq_ofNat_of_zero_le hx7
            have hi : i < a.length := by omega
            have hj : j < b.length := by omega
            rw [show ((j : Int) + 1).toNat = j + 1 from by omega] at HR HT
            obtain ⟨x, hxa⟩ : ∃ x, a[i]? = some x := ⟨_, List.getElem?_eq_getElem hi⟩
            obtain ⟨y, hyb⟩ : ∃ y, b[j]? = some y := ⟨_, List.getElem?_eq_getElem hj⟩
            have Hxa := Aside0.mk hxa
            have Hyb := Aside0.mk hyb
            obtain ⟨ada, rfl, k1⟩ := elem_cell (Ha.out wr (fun k hk hlt => HS.out.2.2.2.2.block k hlt (fun e => hk (Option.some.inj e)))) hxa
            obtain ⟨adb, rfl, k2⟩ := elem_cell (Hb.out wr (fun k hk hlt => HS.out.2.2.2.2.block k hlt (fun e => hk (Option.some.inj e)))) hyb
            clear hxa hyb
            have c0 : wr.cell? ⟨g, 0, none⟩ = some (.slice (some ada) a.length ca) := cell_blk HS.out.2.2.1 rfl
            have c1 : wr.cell? ⟨g, 1, none⟩ = some (.slice (some adb) b.length cb) := cell_blk HS.out.2.2.1 rfl
            obtain ⟨v0, hv0⟩ : ∃ v : Int, v = ((lcsL (a.drop (i + 1)) (b.drop (j + 1)) : Nat) : Int) := ⟨_, rfl⟩
            obtain ⟨v1, hv1⟩ : ∃ v : Int, v = ((lcsL (a.drop (i + 1)) (b.drop j) : Nat) : Int) := ⟨_, rfl⟩
            obtain ⟨v2, hv2⟩ : ∃ v : Int, v = ((lcsL (a.drop i) (b.drop (j + 1)) : Nat) : Int) := ⟨_, rfl⟩
            obtain ⟨v3, hv3⟩ : ∃ v : Int, L1[j]? = some v := ⟨_, List.getElem?_eq_getElem (by have := HS.out.2.1.2.2.2.2.2.2.2.2.2.2; omega)⟩
            have b0 : 0 ≤ v0 ∧ v0 ≤ 2000 := by
              have := lcsL_le_right (a.drop (i + 1)) (b.drop (j + 1))
              rw [List.length_drop] at this
              omega
            have q0 := HL0.out (j + 1) (by omega) (by omega)
            have q1 := HL0.out j (by omega) (by omega)
            have q2 := HR.out (j + 1) (by omega) (by omega)
            rw [show ((i : Int) + 1).toNat = i + 1 from by omega, ← hv0] at q0
            rw [show ((i : Int) + 1).toNat = i + 1 from by omega, ← hv1] at q1
            rw [← hv2] at q2
            have Q0 := Aside0.mk q0
            have Q1 := Aside0.mk q1
            have Q2 := Aside0.mk q2
            have Q3 := Aside0.mk hv3
            have V0 := Aside0.mk hv0
            have V1 := Aside0.mk hv1
            have V2 := Aside0.mk hv2
            clear q0 q1 q2 hv3 hv0 hv1 hv2
            have s1 : IntKind.i64.wrap ((j : Int) + 1) = (j : Int) + 1 := IntWalk.i64_in _ (by omega)
            have s2 : ((j : Int) + 1).toNat = j + 1 := by omega
            by_cases e : x = y
            · have eb : (x == y) = true := beq_iff_eq.2 e
              have E := Aside0.mk e
              clear e
              go_wp2
              go_quiet (fail)
              obtain ⟨wd, hwd⟩ : ∃ wd, wd = wr.drewN nq := ⟨_, rfl⟩
              rw [← hwd]
              have HSd := Aside0.mk (show RState w wd g g3 g0_ g1_ wc.heap.size (.slice (some ada) a.length ca) (.slice (some adb) b.length cb) x2 x3 x4 (a.length * b.length) b.length L0 L1 S by rw [hwd]; exact HS.out.drewN _)
              have m0 : wd.cell? ⟨g0_, j + 1, none⟩ = some (.int .i64 v0) := nums_cell HSd.out.2.1.2.2.2.2.2.2.2.1 Q0.out
              have m3 : wd.cell? ⟨g1_, j, none⟩ = some (.int .i64 v3) := nums_cell HSd.out.2.1.2.2.2.2.2.2.2.2.1 Q3.out
              have z3 : wd.frozen? ⟨g1_, j, none⟩ = false := blk_frozen HSd.out.2.1.2.2.2.2.2.2.2.2.1 _
              clear hwd c0 c1 k1 k2
              go_wp2
              go_roundw
              case measure => simp [intOf]
              case rel =>
                have hd : ((j : Int) - 1 + 1).toNat = j := by omega
                refine ⟨(j : Int) - 1, L1.set j (v0 + 1), S, rfl, by omega, by omega, ⟨HSd.out.row j (v0 + 1)⟩, ⟨?_⟩, ⟨?_⟩, ⟨?_⟩⟩
                · rw [hd]; exact row_one HR.out hj (by have := HSd.out.2.1.2.2.2.2.2.2.2.2.2.2; omega) (by rw [lcs_eq Hxa.out Hyb.out E.out, V0.out]; rfl)
                · rw [List.getElem?_set_ne (by omega)]; exact HL1.out
                · rw [hd]; exact steps_same HT.out hj (step_eq Hxa.out Hyb.out E.out)
            · have eb : (x == y) = false := beq_eq_false_iff_ne.2 e
              have E := Aside0.mk e
              clear e
              have hij := place_lt hi hj
              have p1 : (i : Int) * (b.length : Int) + (j : Int) < (a.length : Int) * (b.length : Int) := by
                rw [← Int.natCast_mul, ← Int.natCast_mul]; omega
              have p0 : 0 ≤ (i : Int) * (b.length : Int) := by rw [← Int.natCast_mul]; omega
              have p2 : ((i : Int) * (b.length : Int) + (j : Int)).toNat = i * b.length + j := by rw [← Int.natCast_mul]; omega
              obtain ⟨sv, hsv⟩ : ∃ v : Int, S[i * b.length + j]? = some v := ⟨_, List.getElem?_eq_getElem (by have := HS.out.2.2.2.1.2; omega)⟩
              have QS := Aside0.mk hsv
              clear hsv hij
              go_wp2
              go_quiet (fail)
              go_wp2
              obtain ⟨wd, hwd⟩ : ∃ wd, wd = wr.drewN nq := ⟨_, rfl⟩
              rw [← hwd]
              have HSd := Aside0.mk (show RState w wd g g3 g0_ g1_ wc.heap.size (.slice (some ada) a.length ca) (.slice (some adb) b.length cb) x2 x3 x4 (a.length * b.length) b.length L0 L1 S by rw [hwd]; exact HS.out.drewN _)
              have m1 : wd.cell? ⟨g0_, j, none⟩ = some (.int .i64 v1) := nums_cell HSd.out.2.1.2.2.2.2.2.2.2.1 Q1.out
              have m2 : wd.cell? ⟨g1_, j + 1, none⟩ = some (.int .i64 v2) := nums_cell HSd.out.2.1.2.2.2.2.2.2.2.2.1 Q2.out
              clear hwd c0 c1 k1 k2
              by_cases hle : v2 ≤ v1
              · have hle' := Aside0.mk hle
                have hb : decide (v2 ≤ v1) = true := decide_eq_true hle
                clear hle
                go_quiet (fail)
                obtain ⟨we, hwe⟩ : ∃ we, we = wd.drewN nq := ⟨_, rfl⟩
                rw [← hwe]
                have HSe := Aside0.mk (show RState w we g g3 g0_ g1_ wc.heap.size (.slice (some ada) a.length ca) (.slice (some adb) b.length cb) x2 x3 x4 (a.length * b.length) b.length L0 L1 S by rw [hwe]; exact HSd.out.drewN _)
                clear hwe m1 m2
                have m1 : we.cell? ⟨g0_, j, none⟩ = some (.int .i64 v1) := nums_cell HSe.out.2.1.2.2.2.2.2.2.2.1 Q1.out
                have m2 : we.cell? ⟨g1_, j + 1, none⟩ = some (.int .i64 v2) := nums_cell HSe.out.2.1.2.2.2.2.2.2.2.2.1 Q2.out
                have m3 : we.cell? ⟨g1_, j, none⟩ = some (.int .i64 v3) := nums_cell HSe.out.2.1.2.2.2.2.2.2.2.2.1 Q3.out
                have z3 : we.frozen? ⟨g1_, j, none⟩ = false := blk_frozen HSe.out.2.1.2.2.2.2.2.2.2.2.1 _
                have HS2 := Aside0.mk (HSe.out.row j v1)
                have n5 : (we.setCell ⟨g1_, j, none⟩ (.int .i64 v1)).cell? ⟨g, 5, none⟩ = some (.slice (some ⟨wc.heap.size, 0, none⟩) (a.length * b.length) (a.length * b.length)) := cell_blk HS2.out.2.2.1 rfl
                have nS : (we.setCell ⟨g1_, j, none⟩ (.int .i64 v1)).cell? ⟨wc.heap.size, i * b.length + j, none⟩ = some (.int .u8 sv) := nums_cell HS2.out.2.2.2.1.1 QS.out
                have zS : (we.setCell ⟨g1_, j, none⟩ (.int .i64 v1)).frozen? ⟨wc.heap.size, i * b.length + j, none⟩ = false := blk_frozen HS2.out.2.2.2.1.1 _
                go_wp2
                go_roundw
                case measure => simp [intOf]
                case rel =>
                  have hd : ((j : Int) - 1 + 1).toNat = j := by omega
                  have hvv : lcsL (a.drop i) (b.drop (j + 1)) ≤ lcsL (a.drop (i + 1)) (b.drop j) ↔ v2 ≤ v1 := by rw [V1.out, V2.out]; omega
                  refine ⟨(j : Int) - 1, L1.set j v1, S.set (i * b.length + j) 1, rfl, by omega, by omega, ⟨HS2.out.step _ _⟩, ⟨?_⟩, ⟨?_⟩, ⟨?_⟩⟩
                  · rw [hd]; exact row_one HR.out hj (by have := HSd.out.2.1.2.2.2.2.2.2.2.2.2.2; omega) (by rw [lcs_ne Hxa.out Hyb.out E.out]; rw [Nat.max_eq_left (hvv.2 hle'.out)]; exact V1.out)
                  · rw [List.getElem?_set_ne (by omega)]; exact HL1.out
                  · rw [hd]; exact steps_one HT.out hj HS.out.2.2.2.1.2 (step_old Hxa.out Hyb.out E.out (hvv.2 hle'.out))
              · have hle' := Aside0.mk hle
                have hb : decide (v2 ≤ v1) = false := decide_eq_false hle
                clear hle
                go_quiet (fail)
                obtain ⟨we, hwe⟩ : ∃ we, we = wd.drewN nq := ⟨_, rfl⟩
                rw [← hwe]
                have HSe := Aside0.mk (show RState w we g g3 g0_ g1_ wc.heap.size (.slice (some ada) a.length ca) (.slice (some adb) b.length cb) x2 x3 x4 (a.length * b.length) b.length L0 L1 S by rw [hwe]; exact HSd.out.drewN _)
                clear hwe m1 m2
                have m1 : we.cell? ⟨g0_, j, none⟩ = some (.int .i64 v1) := nums_cell HSe.out.2.1.2.2.2.2.2.2.2.1 Q1.out
                have m2 : we.cell? ⟨g1_, j + 1, none⟩ = some (.int .i64 v2) := nums_cell HSe.out.2.1.2.2.2.2.2.2.2.2.1 Q2.out
                have m3 : we.cell? ⟨g1_, j, none⟩ = some (.int .i64 v3) := nums_cell HSe.out.2.1.2.2.2.2.2.2.2.2.1 Q3.out
                have z3 : we.frozen? ⟨g1_, j, none⟩ = false := blk_frozen HSe.out.2.1.2.2.2.2.2.2.2.2.1 _
                have HS2 := Aside0.mk (HSe.out.row j v2)
                have n5 : (we.setCell ⟨g1_, j, none⟩ (.int .i64 v2)).cell? ⟨g, 5, none⟩ = some (.slice (some ⟨wc.heap.size, 0, none⟩) (a.length * b.length) (a.length * b.length)) := cell_blk HS2.out.2.2.1 rfl
                have nS : (we.setCell ⟨g1_, j, none⟩ (.int .i64 v2)).cell? ⟨wc.heap.size, i * b.length + j, none⟩ = some (.int .u8 sv) := nums_cell HS2.out.2.2.2.1.1 QS.out
                have zS : (we.setCell ⟨g1_, j, none⟩ (.int .i64 v2)).frozen? ⟨wc.heap.size, i * b.length + j, none⟩ = false := blk_frozen HS2.out.2.2.2.1.1 _
                go_wp2
                go_roundw
                case measure => simp [intOf]
                case rel =>
                  have hd : ((j : Int) - 1 + 1).toNat = j := by omega
                  have hvv : lcsL (a.drop i) (b.drop (j + 1)) ≤ lcsL (a.drop (i + 1)) (b.drop j) ↔ v2 ≤ v1 := by rw [V1.out, V2.out]; omega
                  refine ⟨(j : Int) - 1, L1.set j v2, S.set (i * b.length + j) 2, rfl, by omega, by omega, ⟨HS2.out.step _ _⟩, ⟨?_⟩, ⟨?_⟩, ⟨?_⟩⟩
                  · rw [hd]; exact row_one HR.out hj (by have := HSd.out.2.1.2.2.2.2.2.2.2.2.2.2; omega) (by rw [lcs_ne Hxa.out Hyb.out E.out]; rw [Nat.max_eq_right (by have := mt hvv.1 hle'.out; omega)]; exact V2.out)
                  · rw [List.getElem?_set_ne (by omega)]; exact HL1.out
                  · rw [hd]; exact steps_one HT.out hj HS.out.2.2.2.1.2 (step_fresh Hxa.out Hyb.out E.out (mt hvv.1 hle'.out))
          · have hx7' : x7 = -1 := by omega
            subst hx7'
            have c30 : wr.cell? ⟨g3, 0, none⟩ = some (.slice (some ⟨g0_, 0, none⟩) (b.length + 1) (b.length + 1)) := cell_blk HS.out.2.1.2.2.2.2.2.2.1 rfl
            have c31 : wr.cell? ⟨g3, 1, none⟩ = some (.slice (some ⟨g1_, 0, none⟩) (b.length + 1) (b.length + 1)) := cell_blk HS.out.2.1.2.2.2.2.2.2.1 rfl
            have z30 : wr.frozen? ⟨g3, 0, none⟩ = false := blk_frozen HS.out.2.1.2.2.2.2.2.2.1 _
            have z31 : wr.frozen? ⟨g3, 1, none⟩ = false := blk_frozen HS.out.2.1.2.2.2.2.2.2.1 _
            go_wp2
            go_roundw
            case measure => simp [intOf]
            case rel =>
              have hd : ((i : Int) - 1 + 1).toNat = i := by omega
              refine ⟨(i : Int) - 1, g1_, g0_, L1, L0, S, rfl, by omega, by omega, ⟨HS.out.swap⟩, ⟨?_⟩, ⟨?_⟩, ⟨?_⟩⟩
              · rw [hd]; exact HR.out
              · rw [HL0.out b.length (Nat.zero_le _) (Nat.le_refl _)]; simp
              · rw [hd]; exact HT.out
      · have hx' : x4_ = -1 := by omega
        subst hx'
        have c30 : wr.cell? ⟨g3, 0, none⟩ = some (.slice (some ⟨g0_, 0, none⟩) (b.length + 1) (b.length + 1)) := cell_blk HS.out.2.1.2.2.2.2.2.2.1 rfl
        have c00 : wr.cell? ⟨g0_, 0, none⟩ = some (.int .i64 ((lcsL a b : Nat) : Int)) := by
          have h := nums_cell HS.out.2.1.2.2.2.2.2.2.2.1 (HL0.out 0 (Nat.le_refl _) (Nat.zero_le _))
          simpa using h
        have c6 : wr.cell? ⟨g, 6, none⟩ = some (.int .i64 0) := cell_blk HS.out.2.2.1 rfl
        have z6 : wr.frozen? ⟨g, 6, none⟩ = false := blk_frozen HS.out.2.2.1 _
        go_wp2
        go_end0
        obtain ⟨⟨e1, e2, e3, e4, e5⟩, hr, hg, ⟨hs, hsl⟩, hk⟩ := HS.out
        have hS : S = stepsOf a b := by
          apply List.ext_getElem?
          intro k
          rcases Nat.lt_or_ge k (a.length * b.length) with h | h
          · rw [HT.out k h, if_neg (by simp)]
            simp [stepsOf, h]
          · rw [List.getElem?_eq_none (by omega), List.getElem?_eq_none (by simp [stepsOf]; omega)]
        refine ⟨rfl, ⟨wc.heap.size, e1, ?_, ?_⟩, grown_set hk _ _⟩
        · rw [heap_set_same hg]; rfl
        · rw [← hS]; exact nums_other hs (by omega) _
end Go.Proofs.Ytnlekganlliikaa.X
