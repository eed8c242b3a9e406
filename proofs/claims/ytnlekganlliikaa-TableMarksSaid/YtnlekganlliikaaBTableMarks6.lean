/-
  Parts of one proof, one behind the other: XPair, XGap4, XGap5, XPut, XRef03, XRef19, XGapTells, XTable, XTable2, XKn1, XTabMath, XTabRows, XTabTells, XTabCols.
-/
import Derived.Test.YtnlekganlliikaaBTableMarks5
import Derived.IntWalk
-- part XPair
namespace Go.Proofs.Ytnlekganlliikaa.X
open Go.RowKit Go.Proofs.YtnlekganlliikaaW.PrintWords Go.Proofs.YtnlekganlliikaaW.PrintLast Go.Proofs.YtnlekganlliikaaW.PrintMore
open Go.Maps
set_option linter.unusedVariables false
set_option linter.unusedSimpArgs false
/-- All blocks of cells but one, and those of lists and texts, stay. -/
def MKeeps (Ba : Nat) (W W' : World) : Prop := W.heap.size ≤ W'.heap.size ∧ ∀ (k : Nat) (cells : Array Value) (q : TypeId) (fr : Nat × Nat), k ≠ Ba → W.heap[k]? = some (.cells cells q fr) → q ≠ 34 → q ≠ 9 → W'.heap[k]? = some (.cells cells q fr)
theorem MKeeps.refl (Ba : Nat) (W : World) : MKeeps Ba W W := ⟨Nat.le_refl _, fun _ _ _ _ _ h _ _ => h⟩
theorem MKeeps.trans {Ba : Nat} {W W1 W2 : World} (h : MKeeps Ba W W1) (k : MKeeps Ba W1 W2) : MKeeps Ba W W2 := ⟨Nat.le_trans h.1 k.1, fun i c q fr hi hw h1 h2 => k.2 i c q fr hi (h.2 i c q fr hi hw h1 h2) h1 h2⟩
theorem MKeeps.below {Ba : Nat} {W W1 : World} (h : Below W.heap.size W W1) : MKeeps Ba W W1 := ⟨h.size, fun i c q fr _ hi _ _ => (h.block i (Array.getElem?_eq_some_iff.1 hi).1).trans hi⟩
theorem MKeeps.of_L {Ba : Nat} {W W1 : World} (h : LKeeps Ba W W1) : MKeeps Ba W W1 := ⟨h.1, fun i c q fr hi hw h1 _ => h.2 i c q fr hi hw h1⟩
theorem MKeeps.set {Ba g j : Nat} {W : World} {v : Value} {cs : Array Value} (hg : W.heap[g]? = some (.cells cs 9 (0, 0))) : MKeeps Ba W (W.setCell ⟨g, j, none⟩ v) :=
  ⟨by simp [World.setCell], fun k c q fr _ hi _ hq => (heap_set_other (fun e => by
    subst e
    rw [hg] at hi; injection hi with hi; injection hi with _ hi; exact hq hi.symm) v).trans hi⟩
theorem MKeeps.blk {Ba k : Nat} {W W' : World} (h : MKeeps Ba W W') {cs : Array Value} {t : TypeId} (hk : W.heap[k]? = some (.cells cs t (0, 0))) (hne : k ≠ Ba) (ht : t ≠ 34) (ht2 : t ≠ 9) : W'.heap[k]? = some (.cells cs t (0, 0)) := h.2 k cs t (0, 0) hne hk ht ht2
/-- What is lost, of one column, by how the result is paired with it. -/
def pairGo (N col : Nat) (parent : List ByteArray) : List Int → Nat → Nat → Nat → (Nat → Option (List (List ByteArray))) → Nat → Option (List (List ByteArray))
  | [], i, at_, last, lost => loseAt N col parent lost parent.length at_ last
  | m :: ms, i, at_, last, lost => if 0 ≤ m then pairGo N col parent ms (i + 1) (m.toNat + 1) (i + 1) (loseAt N col parent lost m.toNat at_ last) else pairGo N col parent ms (i + 1) at_ last lost
/-- A line's mark. -/
def markS (m : Int) : ByteArray := if 0 ≤ m then ⟨#[32]⟩ else ⟨#[43]⟩
/-- The marks, so many lines of them with one more. -/
def MarksAt (marks : List ByteArray) (ms : List Int) (k : Nat) (M : List ByteArray) : Prop :=
  M.length = marks.length ∧ ∀ i, M.getD i ByteArray.empty = if 1 ≤ i ∧ i ≤ k then marks.getD i ByteArray.empty ++ markS (ms.getD (i - 1) 0) else marks.getD i ByteArray.empty
theorem MarksAt.step {marks : List ByteArray} {ms : List Int} {k : Nat} {M : List ByteArray} (h : MarksAt marks ms k M) (hk : k + 1 < marks.length) : MarksAt marks ms (k + 1) (M.set (k + 1) (M.getD (k + 1) ByteArray.empty ++ markS (ms.getD k 0))) := by
  obtain ⟨h1, h2⟩ := h
  refine ⟨by simpa using h1, fun i => ?_⟩
  by_cases e : i = k + 1
  · subst e
    rw [if_pos ⟨by omega, Nat.le_refl _⟩]
    have := h2 (k + 1)
    rw [if_neg (by omega)] at this
    rw [this]
    simp [h1, hk]
  · have hs : (M.set (k + 1) (M.getD (k + 1) ByteArray.empty ++ markS (ms.getD k 0))).getD i ByteArray.empty = M.getD i ByteArray.empty := by
      simp only [List.getD_eq_getElem?_getD, List.getElem?_set, if_neg (Ne.symm e)]
    rw [hs, h2 i]
    by_cases e2 : 1 ≤ i ∧ i ≤ k
    · rw [if_pos e2, if_pos (by omega)]
    · rw [if_neg e2, if_neg (by omega)]
/-- All marks, of one parent more. -/
def marksF (marks : List ByteArray) (ms : List Int) : List ByteArray := (marks.getD 0 ByteArray.empty ++ ⟨#[32]⟩) :: List.zipWith (fun s m => s ++ markS m) marks.tail ms
theorem MarksAt.last {marks : List ByteArray} {ms : List Int} {M : List ByteArray} (h : MarksAt marks ms ms.length M) (hl : marks.length = ms.length + 1) : M.set 0 (M.getD 0 ByteArray.empty ++ ⟨#[32]⟩) = marksF marks ms := by
  obtain ⟨h1, h2⟩ := h
  have h0 := h2 0
  rw [if_neg (by omega)] at h0
  refine List.ext_getElem (by simp [marksF, h1]; omega) fun i hi1 hi2 => ?_
  rw [List.length_set] at hi1
  cases i with
  | zero => rw [List.getElem_set_self, h0]; rfl
  | succ i =>
    have hi := h2 (i + 1)
    rw [if_pos (by omega)] at hi
    rw [List.getElem_set_ne (by omega)]
    have e1 : M[i + 1] = M.getD (i + 1) ByteArray.empty := by simp [hi1]
    have hi3 : i < ms.length := by omega
    rw [e1, hi]
    simp only [marksF, List.getElem_cons_succ, List.getElem_zipWith, List.getElem_tail, Nat.add_sub_cancel]
    rw [show marks.getD (i + 1) ByteArray.empty = marks[i + 1]'(by omega) by simp [show i + 1 < marks.length by omega], show ms.getD i 0 = ms[i] by simp [hi3]]
theorem MakerIn.marks {w0 W : World} {B g N : Nat} {Ap : Option Addr} {cp cnt : Nat} {marks : List ByteArray} {lost : Nat → Option (List (List ByteArray))} {out : List S37} {e : Int} (h : MakerIn w0 W B g N Ap cp cnt marks lost out e) (hm : 0 < marks.length) :
    ∃ gv cv gm vo, W.heap[g]? = some (.cells #[.slice Ap N cp, .slice (some ⟨gv, 0, none⟩) marks.length cv, .map (some gm), vo, .int .i64 e] 78 (0, 0)) ∧ B ≤ gv ∧ (∃ cs, W.heap[gv]? = some (.cells cs 9 (0, 0))) ∧
      (∀ i, i < marks.length → W.cell? ⟨gv, i, none⟩ = some (.string (marks.getD i ByteArray.empty)) ∧ W.frozen? ⟨gv, i, none⟩ = false) ∧
      ∀ i s, i < marks.length → MakerIn w0 (W.setCell ⟨gv, i, none⟩ (.string s)) B g N Ap cp cnt (marks.set i s) lost out e := by
  obtain ⟨vm, gm, vo, h1, h2, h3, h4, h5⟩ := h
  obtain ⟨gv, cv, rfl, hgB, hgs, cs, hcs⟩ := Kd.R_form h3 hm
  refine ⟨gv, cv, gm, vo, h1, hgB, ⟨cs, hcs⟩, fun i hi => ?_, fun i s hi => ?_⟩
  · have := Kd.R_celln ByteArray.empty h3 (i : Int) (by omega) (by omega)
    rw [show (i : Int).toNat = i by omega] at this
    exact this
  · refine ⟨.slice (some ⟨gv, 0, none⟩) marks.length cv, gm, vo, set_keep h1 (blk_ne h1 hcs (by decide)) _, h2, ?_, Kd.R_set h4 hcs (by decide) _ _, h5.set hcs (by decide) _⟩
    have := Kd.R_putn h3 (i : Int) s
    rw [show (i : Int).toNat = i by omega] at this
    exact this
theorem MakerIn.below {w0 W W' : World} {B g N : Nat} {Ap : Option Addr} {cp cnt : Nat} {marks : List ByteArray} {lost : Nat → Option (List (List ByteArray))} {out : List S37} {e : Int} (h : MakerIn w0 W B g N Ap cp cnt marks lost out e) (hb : Below W.heap.size W W') : MakerIn w0 W' B g N Ap cp cnt marks lost out e := by
  obtain ⟨vm, gm, vo, h1, h2, h3, h4, h5⟩ := h
  exact ⟨vm, gm, vo, keep_ h1 hb, h2, Kd.R_below h3 hb, Kd.R_below h4 hb, h5.below hb⟩
theorem MakerIn.mono {w0 W : World} {B g N : Nat} {Ap : Option Addr} {cp cnt cnt' : Nat} {marks : List ByteArray} {lost : Nat → Option (List (List ByteArray))} {out : List S37} {e : Int} (h : MakerIn w0 W B g N Ap cp cnt marks lost out e) (hc : cnt ≤ cnt') : MakerIn w0 W B g N Ap cp cnt' marks lost out e := by
  obtain ⟨vm, gm, vo, h1, h2, h3, h4, h5⟩ := h
  exact ⟨vm, gm, vo, h1, h2, h3, h4, h5.mono hc⟩
/-- What another pair's reckoning turns: one block of its own. -/
theorem MakerIn.grown {w0 W W' : World} {B g N gp : Nat} {Ap : Option Addr} {cp cnt : Nat} {marks : List ByteArray} {lost : Nat → Option (List (List ByteArray))} {out : List S37} {e : Int} {cs : Array Value} {t : TypeId} (h : MakerIn w0 W B g N Ap cp cnt marks lost out e) (hg : W.grownBy W' (some gp)) (hgp : W.heap[gp]? = some (.cells cs t (0, 0))) (ht : t ≠ 78 ∧ t ≠ 9 ∧ t ≠ 37 ∧ t ≠ 34) : MakerIn w0 W' B g N Ap cp cnt marks lost out e := by
  obtain ⟨vm, gm, vo, h1, h2, h3, h4, h5⟩ := h
  have hne : ∀ (k : Nat) (cells : Array Value) (q : TypeId) (fr : Nat × Nat), W.heap[k]? = some (.cells cells q fr) → q ≠ t → W'.heap[k]? = W.heap[k]? := fun k cells q fr hk hq =>
    hg.block k (Array.getElem?_eq_some_iff.1 hk).1 (fun e => by injection e with e; subst e; rw [hgp] at hk; injection hk with hk; injection hk with _ hk; exact hq hk.symm)
  refine ⟨vm, gm, vo, (hne g _ _ _ h1 (Ne.symm ht.1)).trans h1, h2, Kd.R_map h3 (fun k cells q fr hk hq => hne k cells q fr hk ?_), Kd.R_map h4 (fun k cells q fr hk hq => hne k cells q fr hk ?_), h5.step fun k hk hq => hg.block k hk (fun e => ?_)⟩
  · intro e; subst e
    have : q = 9 := by simpa [Kd.string, Kd.scalar] using hq
    exact ht.2.1 this
  · intro e; subst e
    have : q = 37 := by simpa [k37, Kd.iso, Kd.pair, Kd.string, Kd.scalar] using hq
    exact ht.2.2.1 this
  · injection e with e
    subst e
    exact ht.2.2.2 (hq _ _ _ hgp)
set_option maxRecDepth 100000 in
set_option maxHeartbeats 8000000 in
theorem pair_calls (w0 w : World) (B g N cp cnt col : Nat) (Ap : Option Addr) (parents : List (List ByteArray)) (marks : List ByteArray) (lost : Nat → Option (List (List ByteArray))) (out : List S37) (e : Int) (A0 : Option Addr) (c0 : Nat) (a : List Int) (A1 : Option Addr) (c1 : Nat) (b : List Int)
    (hP : Kd.C KS w0 Ap N parents) (hB : B = w0.heap.size) (hw : Below B w0 w) (h : MakerIn w0 w B g N Ap cp cnt marks lost out e) (hcol : col < N) (hml : marks.length = a.length + 1) (hm0 : (marks.getD 0 ByteArray.empty).size = col + 1)
    (ha : Kd.C (Kd.int .i64) w A0 a.length a) (hac : a.length ≤ c0) (hb : Kd.C (Kd.int .i64) w A1 b.length b) (hbc : b.length ≤ c1) (hbl : b.length = (parents.getD col []).length) (la : a.length ≤ 2000) (lb : b.length ≤ 2000) (hz : ∀ s ∈ marks, s.size ≤ 1000000) (hN : N ≤ 1000) (hcnt : cnt ≤ 100000000) :
    Calls Try.prog 45 #[.pointer (some ⟨g, 0, none⟩), .slice A0 a.length c0, .slice A1 b.length c1] w fun e' w' => e' = .returned (.tuple #[]) ∧
      Aside0 (MakerIn w0 w' B g N Ap cp (cnt + a.length + 1) (marksF marks (matchOf a b)) (pairGo N col (parents.getD col []) (matchOf a b) 0 0 0 lost) out e) ∧ Aside0 (Below B w w') ∧ Aside0 (MKeeps w'.heap.size w w') := by
  have HP := Aside0.mk hP
  have HW := Aside0.mk hw
  have HB := Aside0.mk hB
  have HI := Aside0.mk h
  have HA := Aside0.mk ha
  have HBB := Aside0.mk hb
  have HZ := Aside0.mk hz
  have HBW : Aside0 (B ≤ w.heap.size) := ⟨by rw [hB]; exact (by rw [hB] at hw; exact hw.size)⟩
  obtain ⟨P, hPe⟩ : ∃ P, parents.getD col [] = P := ⟨_, rfl⟩
  have HPE := Aside0.mk hPe
  rw [hPe] at hbl ⊢
  have hup : Up P.length 0 (matchOf a b) := by rw [← hbl]; exact match_up a b
  have hmlen : (matchOf a b).length = a.length := by rw [matchOf, matchFrom_length]
  obtain ⟨m, hm⟩ : ∃ m, matchOf a b = m := ⟨_, rfl⟩
  rw [hm] at hup hmlen ⊢
  have HMM := Aside0.mk hm
  clear hm
  obtain ⟨FIN, hFIN⟩ : ∃ F, pairGo N col P m 0 0 0 lost = F := ⟨_, rfl⟩
  have HFIN := Aside0.mk hFIN
  rw [hFIN]
  clear hFIN
  have HML := Aside0.mk hml
  have HBL := Aside0.mk hbl
  have HMLEN := Aside0.mk hmlen
  have HUP := Aside0.mk hup
  have HPP : Aside0 (P.length ≤ 2000) := ⟨by rw [← hbl]; exact lb⟩
  obtain ⟨gv, cv, gm, vo, q1, q2, q3, q4, _⟩ := HI.out.marks (by omega)
  have cg1 : w.cell? ⟨g, 1, none⟩ = some (.slice (some ⟨gv, 0, none⟩) marks.length cv) := cell_blk q1 rfl
  have cv0 := (q4 0 (by omega)).1
  obtain ⟨m0, hm0e⟩ : ∃ m0, marks.getD 0 ByteArray.empty = m0 := ⟨_, rfl⟩
  rw [hm0e] at hm0 cv0
  have HM0 := Aside0.mk hm0
  have HM0E := Aside0.mk hm0e
  have hm0i : (m0.size : Int) = (col : Int) + 1 := by omega
  have hlen0 : 0 < marks.length := by omega
  have cg1' : ∀ o, (w.alloc o).cell? ⟨g, 1, none⟩ = some (.slice (some ⟨gv, 0, none⟩) marks.length cv) := fun o => cell_alloc_of cg1 o
  have cv0' : ∀ o, (w.alloc o).cell? ⟨gv, 0, none⟩ = some (.string m0) := fun o => cell_alloc_of cv0 o
  clear q1 q2 q3 q4 hP hw hB h ha hb hz hPe hml hbl hmlen hup hm0e hm0
  have hmf : ∀ (fn : Fn) (first cap : Array Value) (w : World), (Instr.makeFunc fn first cap).run Try.prog w = .ok (.func fn first cap) w := fun _ _ _ _ => rfl
  go_enter Try.func45, Try.ntmps45
  go_wp2_with fail
  obtain ⟨w2, hw2⟩ : ∃ w2, (w.alloc (.cells #[.pointer (some ⟨g, 0, none⟩)] 75)).alloc (.cells #[.int .i64 (col : Int)] 3) = w2 := ⟨_, rfl⟩
  have hb2 : Below w.heap.size w w2 := by rw [← hw2]; exact ((Below.refl _ w).alloc (Nat.le_refl _) _).alloc (by simp) _
  have hs2 : w2.heap.size = w.heap.size + 2 := by rw [← hw2]; simp
  have hBm : w2.heap[w.heap.size]? = some (.cells #[.pointer (some ⟨g, 0, none⟩)] 75 (0, 0)) := by rw [← hw2, heap_alloc_old _ _ (by simp)]; exact blk_new _ _
  have hBc : w2.heap[w.heap.size + 1]? = some (.cells #[.int .i64 (col : Int)] 3 (0, 0)) := by rw [← hw2]; have := blk_new (w.alloc (.cells #[.pointer (some ⟨g, 0, none⟩)] 75)) (.cells #[.int .i64 (col : Int)] 3); simpa using this
  rw [hw2]
  refine (lcs_New_pair A0 c0 a A1 c1 b w2 (Kd.C_below HA.out hb2) hac (Kd.C_below HBB.out hb2) hbc la lb).mono ?_
  rintro e4 w4 ⟨gp, d, rfl, HGP, HPI, HB4⟩
  have HB2 := Aside0.mk hb2
  have HS2 := Aside0.mk hs2
  have HBm := Aside0.mk hBm
  have HBc := Aside0.mk hBc
  have hs4 : w.heap.size + 2 ≤ w4.heap.size := by rw [← hs2]; exact HB4.out.size
  clear hw2 hb2 hs2 hBm hBc cg1 cg1' cv0 cv0' hm0i
  go_wp2_with fail
  refine (pair_Match gp a b d _ (HPI.out.below (below_alloc (Below.refl _ _) _))).mono ?_
  obtain ⟨w5, hw5⟩ : ∃ w5, w4.alloc (.cells #[.int .i64 0] 3) = w5 := ⟨_, rfl⟩
  have hbl5 : Below w4.heap.size w4 w5 := by rw [← hw5]; exact (Below.refl _ _).alloc (Nat.le_refl _) _
  have hs5 : w5.heap.size = w4.heap.size + 1 := by rw [← hw5]; simp
  have hBa : w5.heap[w4.heap.size]? = some (.cells #[.int .i64 0] 3 (0, 0)) := by rw [← hw5]; exact blk_new _ _
  rw [hw5]
  clear hw5
  rintro e6 w6 ⟨vm, rfl, hm6, hp6, hg6⟩
  obtain ⟨pc, q1⟩ : ∃ pc : Array Value, w4.heap[gp]? = some (.cells pc 103 (0, 0)) := by
    obtain ⟨_, _, _, _, _, _, q1, _⟩ := HPI.out; exact ⟨_, q1⟩
  have hgp4 : gp < w4.heap.size := blk_lt q1
  have q15 := keep_ q1 hbl5
  have hgpW : w.heap.size ≤ gp := by have := HGP.out; have := HS2.out; omega
  have hBa6 : w6.heap[w4.heap.size]? = some (.cells #[.int .i64 0] 3 (0, 0)) := (hg6.block _ (blk_lt hBa) (fun e => by have := Option.some.inj e; omega)).trans hBa
  have hBm6 : w6.heap[w.heap.size]? = some (.cells #[.pointer (some ⟨g, 0, none⟩)] 75 (0, 0)) := by
    have h5 := keep_ (keep_ HBm.out HB4.out) hbl5
    exact (hg6.block _ (blk_lt h5) (fun e => by have := Option.some.inj e; subst this; rw [h5] at q15; cases q15)).trans h5
  have hBc6 : w6.heap[w.heap.size + 1]? = some (.cells #[.int .i64 (col : Int)] 3 (0, 0)) := by
    have h5 := keep_ (keep_ HBc.out HB4.out) hbl5
    exact (hg6.block _ (blk_lt h5) (fun e => by have := Option.some.inj e; subst this; rw [h5] at q15; cases q15)).trans h5
  have hI6 : MakerIn w0 w6 B g N Ap cp cnt marks lost out e := (((HI.out.below HB2.out).below HB4.out).below hbl5).grown hg6 q15 (by decide)
  have hb6 : Below w.heap.size w w6 := below_grown (far_ (far_ HB2.out HB4.out) hbl5) hg6 (by omega) (by omega)
  have hs6 : w4.heap.size + 1 ≤ w6.heap.size := by rw [← hs5]; exact hg6.size
  have HI6 := Aside0.mk hI6
  have HBa6 := Aside0.mk hBa6
  have HBm6 := Aside0.mk hBm6
  have HBc6 := Aside0.mk hBc6
  have HB6 := Aside0.mk hb6
  have HM6 := Aside0.mk hm6
  have HHS4 := Aside0.mk hs4
  have HS5 := Aside0.mk hs5
  clear hI6 hBa6 hBm6 hBc6 hb6 hm6 hp6 hg6 q1 q15 hBa hs5 hbl5 hgp4 hgpW hs4
  obtain ⟨Am, cm, rfl⟩ := Kd.R_slice HM6.out
  rw [HMM.out] at HM6 ⊢
  have hml2 := HMLEN.out
  rw [hml2] at HM6 ⊢
  clear hml2
  obtain ⟨w4b, hw4b⟩ : ∃ n, w4.heap.size = n := ⟨_, rfl⟩
  rw [hw4b] at HBa6 hs6 HHS4 HS5 ⊢
  clear hw4b
  go_wp2_with fail
  go_loopw [11, 33] (fun lst i wr => ∃ (k at_ last : Nat) (M : List ByteArray) (lost' : Nat → Option (List (List ByteArray))), i = .int .i64 k ∧ lst = .int .i64 last ∧ k ≤ a.length ∧ at_ ≤ P.length ∧ last ≤ k ∧ Aside0 (MakerIn w0 wr B g N Ap cp (cnt + k) M lost' out e) ∧
    Aside0 (wr.heap[w4b]? = some (.cells #[.int .i64 (at_ : Int)] 3 (0, 0))) ∧ Aside0 (Below B w wr) ∧ Aside0 (MKeeps w4b w6 wr) ∧ Aside0 (Up P.length at_ (m.drop k)) ∧ Aside0 (pairGo N col P (m.drop k) k at_ last lost' = FIN) ∧ Aside0 (MarksAt marks m k M)) (fun _ i _ => a.length - (intOf i).toNat)
  case atStart => exact ⟨0, 0, 0, marks, lost, rfl, rfl, Nat.zero_le _, Nat.zero_le _, Nat.le_refl _, HI6, HBa6, ⟨HB6.out.mono HBW.out⟩, ⟨MKeeps.refl _ _⟩, by simpa using HUP, by simpa using HFIN, ⟨rfl, fun i => by rw [if_neg (by omega)]⟩⟩
  case round =>
    obtain ⟨k, at_, last, M, lost', rfl, rfl, hk, hat, hlast, HIr, HAr, HBr, HKr, HUr, HFr, HMr⟩ := hrel
    have hMl : M.length = marks.length := HMr.out.1
    have HMl := Aside0.mk hMl
    have hmr := HML.out
    have hcm : wr.heap[w.heap.size]? = some (.cells #[.pointer (some ⟨g, 0, none⟩)] 75 (0, 0)) := HKr.out.blk HBm6.out (by have := HHS4.out; omega) (by decide) (by decide)
    have hcc : wr.heap[w.heap.size + 1]? = some (.cells #[.int .i64 (col : Int)] 3 (0, 0)) := HKr.out.blk HBc6.out (by have := HHS4.out; omega) (by decide) (by decide)
    have HCM := Aside0.mk hcm
    have HCC := Aside0.mk hcc
    have cbm : wr.cell? ⟨w.heap.size, 0, none⟩ = some (.pointer (some ⟨g, 0, none⟩)) := cell_blk hcm rfl
    clear hMl hmr hcm hcc
    by_cases hlt : k < a.length
    · obtain ⟨gmt, cmm, hev, hgB, hgS, mcells, hgm⟩ := Kd.R_form HM6.out (by rw [HMLEN.out]; omega)
      injection hev with e1 e2 e3
      subst e1; subst e3
      clear e2
      have hmk : wr.heap[gmt]? = w6.heap[gmt]? := (HKr.out.2 gmt _ _ _ (by have := HS5.out; omega) hgm (by decide) (by decide)).trans hgm.symm
      obtain ⟨adm, em, hcm⟩ := at_num (Kd.R_reads' HM6.out).2.2 k (by rw [HMLEN.out]; exact hlt)
      cases em
      rw [add0_] at hcm
      replace hcm : wr.cell? ⟨gmt, k, none⟩ = some (.int .i64 (m.getD k 0)) := by rw [← hcm]; simp only [World.cell?, hmk]
      have hmd : m.drop k = m.getD k 0 :: m.drop (k + 1) := by rw [List.drop_eq_getElem_cons (by rw [HMLEN.out]; exact hlt), getD_get (by rw [HMLEN.out]; exact hlt)]
      rw [hmd] at HUr HFr
      obtain ⟨mk, hmke⟩ : ∃ mk, m.getD k 0 = mk := ⟨_, rfl⟩
      have HMK := Aside0.mk hmke
      rw [hmke] at hcm HUr HFr
      clear hmd hmk hgm hmke
      rcases HUr.out with ⟨rfl, hu⟩ | ⟨q, rfl, hq1, hq2, hu⟩
      · have HU := Aside0.mk hu
        clear hu HUr
        obtain ⟨gv, cv, gm, vo, q1, qB, ⟨cs, qcs⟩, q3, q4⟩ := HIr.out.marks (by have := HMl.out; have := HML.out; omega)
        have cg1 : wr.cell? ⟨g, 1, none⟩ = some (.slice (some ⟨gv, 0, none⟩) M.length cv) := cell_blk q1 rfl
        obtain ⟨cvk, fvk⟩ := q3 (k + 1) (by have := HMl.out; have := HML.out; omega)
        have Q4 := Aside0.mk (q4 (k + 1))
        have QCS := Aside0.mk qcs
        have QB := Aside0.mk qB
        obtain ⟨s, hs⟩ : ∃ s, M.getD (k + 1) ByteArray.empty = s := ⟨_, rfl⟩
        have hse : s.size ≤ 1000000 := by
          have h2 := HMr.out.2 (k + 1)
          rw [if_neg (by omega), hs] at h2
          rw [h2]
          have hlt2 : k + 1 < marks.length := by have := HML.out; omega
          rw [show marks.getD (k + 1) ByteArray.empty = marks[k + 1] by simp [hlt2]]
          exact HZ.out _ (List.getElem_mem hlt2)
        have HSE := Aside0.mk hs
        rw [hs] at cvk
        have hlm : k + 1 < M.length := by have := HMl.out; have := HML.out; omega
        have hsz1 : s.size + 1 ≤ 9223372036854775807 := by omega
        clear q1 q3 q4 qcs qB hs
        go_wp2
        go_roundw
        case measure => simp [intOf]; omega
        case rel =>
          have hms := HMr.out.step (by have := HML.out; omega)
          rw [HSE.out, HMK.out] at hms
          refine ⟨k + 1, at_, last, _, lost', by go_num, rfl, by omega, hat, by omega, ⟨(Q4.out (s ++ ⟨#[43]⟩) hlm).mono (by omega)⟩, ⟨?_⟩, ⟨HBr.out.setCell (p := ⟨gv, k + 1, none⟩) QB.out _⟩, ⟨HKr.out.trans ?_⟩, HU, ?_, ⟨hms⟩⟩
          · obtain ⟨cs', hcs'⟩ : ∃ cs' : Array Value, wr.heap[gv]? = some (.cells cs' 9 (0, 0)) := ⟨_, QCS.out⟩
            exact set_keep HAr.out (blk_ne HAr.out hcs' (by decide)) _
          · exact MKeeps.set QCS.out
          · exact ⟨by rw [← HFr.out, pairGo, if_neg (by decide)]⟩
      · have HU := Aside0.mk hu
        have hq0 : decide (0 ≤ (q : Int)) = true := decide_eq_true (by omega)
        have hq9 : (0 : Int) ≤ (q : Int) := by omega
        clear hu HUr
        go_wp2_with fail
        refine (lose_calls w0 wr B w4b w.heap.size (w.heap.size + 1) g N cp (cnt + k) col at_ q last Ap parents M lost' out e HP.out HB.out (HW.out.trans HBr.out) HIr.out HAr.out HCM.out HCC.out (by have := HHS4.out; have := HBW.out; omega) (by have := HHS4.out; omega) hcol (by rw [HPE.out]; omega) (by rw [HPE.out]; have := HPP.out; omega) (by omega) hN (by omega) (by have := HPP.out; omega)).mono ?_
        rintro e7 wf ⟨rfl, HIf, HAf, HBf, HKf⟩
        rw [HPE.out] at HIf
        have cbmf : wf.cell? ⟨w.heap.size, 0, none⟩ = some (.pointer (some ⟨g, 0, none⟩)) := cell_blk (HKf.out.blk HCM.out (by have := HHS4.out; omega) (by decide)) rfl
        clear cbm hcm
        obtain ⟨gv, cv, gm, vo, q1, qB, ⟨cs, qcs⟩, q3, q4⟩ := HIf.out.marks (by have := HMl.out; have := HML.out; omega)
        have cg1 : wf.cell? ⟨g, 1, none⟩ = some (.slice (some ⟨gv, 0, none⟩) M.length cv) := cell_blk q1 rfl
        obtain ⟨cvk, fvk⟩ := q3 (k + 1) (by have := HMl.out; have := HML.out; omega)
        have Q4 := Aside0.mk (q4 (k + 1))
        have QCS := Aside0.mk qcs
        have QB := Aside0.mk qB
        obtain ⟨s, hs⟩ : ∃ s, M.getD (k + 1) ByteArray.empty = s := ⟨_, rfl⟩
        have hse : s.size ≤ 1000000 := by
          have h2 := HMr.out.2 (k + 1)
          rw [if_neg (by omega), hs] at h2
          rw [h2]
          have hlt2 : k + 1 < marks.length := by have := HML.out; omega
          rw [show marks.getD (k + 1) ByteArray.empty = marks[k + 1] by simp [hlt2]]
          exact HZ.out _ (List.getElem_mem hlt2)
        have HSE := Aside0.mk hs
        rw [hs] at cvk
        have hlm : k + 1 < M.length := by have := HMl.out; have := HML.out; omega
        have hsz1 : s.size + 1 ≤ 9223372036854775807 := by omega
        clear q1 q3 q4 qcs qB hs
        go_wp2
        go_roundw
        case measure => simp [intOf]; omega
        case rel =>
          have hms := HMr.out.step (by have := HML.out; omega)
          have hmq : markS (q : Int) = ⟨#[32]⟩ := if_pos (by omega)
          rw [HSE.out, HMK.out, hmq] at hms
          refine ⟨k + 1, q + 1, k + 1, _, _, by go_num, by go_num, by omega, by omega, Nat.le_refl _, ⟨(Q4.out (s ++ ⟨#[32]⟩) hlm).mono (by omega)⟩, ⟨?_⟩, ⟨(HBr.out.trans HBf.out).setCell (p := ⟨gv, k + 1, none⟩) QB.out _⟩, ⟨HKr.out.trans ((MKeeps.of_L HKf.out).trans (MKeeps.set QCS.out))⟩, HU, ?_, ⟨hms⟩⟩
          · obtain ⟨cs', hcs'⟩ : ∃ cs' : Array Value, wf.heap[gv]? = some (.cells cs' 9 (0, 0)) := ⟨_, QCS.out⟩
            exact set_keep HAf.out (blk_ne HAf.out hcs' (by decide)) _
          · exact ⟨by rw [← HFr.out, pairGo, if_pos (by omega), Int.toNat_natCast]⟩
    · have hk' : k = a.length := by omega
      subst hk'
      have hmn : m.drop a.length = [] := List.drop_of_length_le (by rw [HMLEN.out]; exact Nat.le_refl _)
      rw [hmn, pairGo] at HFr
      clear hmn
      have hbl := HBL.out
      have HBL' := Aside0.mk hbl
      clear hbl
      go_wp2_with fail
      refine (lose_calls w0 wr B w4b w.heap.size (w.heap.size + 1) g N cp (cnt + a.length) col at_ b.length last Ap parents M lost' out e HP.out HB.out (HW.out.trans HBr.out) HIr.out HAr.out HCM.out HCC.out (by have := HHS4.out; have := HBW.out; omega) (by have := HHS4.out; omega) hcol (by rw [HPE.out]; rw [HBL.out]; exact Nat.le_refl _) (by rw [HPE.out]; have := HPP.out; omega) (by omega) hN (by omega) (by have := HPP.out; omega)).mono ?_
      rintro e7 wf ⟨rfl, HIf, HAf, HBf, HKf⟩
      rw [HPE.out, HBL.out, HFr.out] at HIf
      have cbmf : wf.cell? ⟨w.heap.size, 0, none⟩ = some (.pointer (some ⟨g, 0, none⟩)) := cell_blk (HKf.out.blk HCM.out (by have := HHS4.out; omega) (by decide)) rfl
      clear cbm
      obtain ⟨gv, cv, gm, vo, q1, qB, ⟨cs, qcs⟩, q3, q4⟩ := HIf.out.marks (by have := HMl.out; have := HML.out; omega)
      have cg1 : wf.cell? ⟨g, 1, none⟩ = some (.slice (some ⟨gv, 0, none⟩) M.length cv) := cell_blk q1 rfl
      obtain ⟨cvk, fvk⟩ := q3 (0) (by have := HMl.out; have := HML.out; omega)
      have Q4 := Aside0.mk (q4 (0))
      have QCS := Aside0.mk qcs
      have QB := Aside0.mk qB
      obtain ⟨s, hs⟩ : ∃ s, M.getD (0) ByteArray.empty = s := ⟨_, rfl⟩
      have hse : s.size ≤ 1000000 := by
        have h2 := HMr.out.2 (0)
        rw [if_neg (by omega), hs] at h2
        rw [h2]
        have hlt2 : 0 < marks.length := by have := HML.out; omega
        rw [show marks.getD (0) ByteArray.empty = marks[0] by simp [hlt2]]
        exact HZ.out _ (List.getElem_mem hlt2)
      have HSE := Aside0.mk hs
      rw [hs] at cvk
      have hlm : 0 < M.length := by have := HMl.out; have := HML.out; omega
      have hsz1 : s.size + 1 ≤ 9223372036854775807 := by omega
      clear q1 q3 q4 qcs qB hs
      go_wp2
      go_end0
      have hlast2 := (MarksAt.last (ms := m) (by rw [HMLEN.out]; exact HMr.out) (by rw [HML.out, HMLEN.out]))
      rw [HSE.out] at hlast2
      have hbl2 : Below B w (wf.setCell ⟨gv, 0, none⟩ (.string (s ++ ⟨#[32]⟩))) := (HBr.out.trans HBf.out).setCell (p := ⟨gv, 0, none⟩) QB.out _
      refine ⟨rfl, ⟨?_⟩, ⟨hbl2⟩, ⟨?_⟩⟩
      · rw [← hlast2]
        exact Q4.out (s ++ ⟨#[32]⟩) hlm
      · have hk1 : MKeeps w4b w6 (wf.setCell ⟨gv, 0, none⟩ (.string (s ++ ⟨#[32]⟩))) := HKr.out.trans ((MKeeps.of_L HKf.out).trans (MKeeps.set QCS.out))
        have hk2 := (MKeeps.below (Ba := w4b) HB6.out).trans hk1
        have hs := HHS4.out
        exact ⟨hk2.1, fun i c q fr hi hw h1 h2 => hk2.2 i c q fr (by have := (Array.getElem?_eq_some_iff.1 hw).1; omega) hw h1 h2⟩
end Go.Proofs.Ytnlekganlliikaa.X
-- part XGap4
namespace Go.Proofs.Ytnlekganlliikaa.X
open Go.RowKit Go.Proofs.YtnlekganlliikaaW.PrintWords Go.Proofs.YtnlekganlliikaaW.PrintLast Go.Proofs.YtnlekganlliikaaW.PrintMore
set_option linter.unusedVariables false
set_option linter.unusedSimpArgs false
/-- The rows, and the error, when lists come one behind the other, from column i on. -/
def eachG : Nat → List (List ByteArray) → List RowG → Int → List RowG × Int
  | _, [], rs, e => (rs, e)
  | i, l :: ls, rs, e => eachG (i + 1) ls (comeS i l rs e).1 (comeS i l rs e).2
theorem eachG_snoc : ∀ (ls : List (List ByteArray)) (i : Nat) (l : List ByteArray) (rs : List RowG) (e : Int),
    eachG i (ls ++ [l]) rs e = comeS (i + ls.length) l (eachG i ls rs e).1 (eachG i ls rs e).2
  | [], i, l, rs, e => by simp [eachG]
  | x :: ls, i, l, rs, e => by
    rw [List.cons_append, eachG, eachG_snoc ls, eachG, List.length_cons, show i + 1 + ls.length = i + (ls.length + 1) by omega]
theorem comeGo_all (P : ByteArray → Prop) (col : Nat) (list : List ByteArray) (h : ∀ s ∈ list, P s) : ∀ (ms : List Int) (rs : List RowG) (a : Nat), (∀ x ∈ rs, P x.2) → ∀ x ∈ comeGo col list ms rs a, P x.2
  | [], rs, a, hr => by
    rw [comeGo_nil]
    intro x hx
    obtain ⟨s, hs, rfl⟩ := List.mem_map.1 hx
    exact h s (List.mem_of_mem_drop hs)
  | m :: ms, [], a, hr => by
    intro x hx
    obtain ⟨s, hs, rfl⟩ := List.mem_map.1 hx
    exact h s (List.mem_of_mem_drop hs)
  | m :: ms, y :: rs, a, hr => by
    have ih := comeGo_all P col list h ms rs
    intro x hx
    have hy := hr y List.mem_cons_self
    have hr' : ∀ x ∈ rs, P x.2 := fun x hx => hr x (List.mem_cons_of_mem _ hx)
    rw [comeGo] at hx
    split at hx
    · rcases List.mem_append.1 hx with hx | hx
      · obtain ⟨s, hs, rfl⟩ := List.mem_map.1 hx
        exact h s (List.mem_of_mem_take (List.mem_of_mem_drop hs))
      · rcases List.mem_cons.1 hx with rfl | hx
        · exact hy
        · exact ih _ hr' x hx
    · rcases List.mem_cons.1 hx with rfl | hx
      · exact hy
      · exact ih _ hr' x hx
/-- What holds of rows all along: few, and their texts. -/
def RowsOk (P : ByteArray → Prop) (rs : List RowG) : Prop := rs.length ≤ 4000 ∧ ∀ x ∈ rs, P x.2
theorem comeS_ok {P : ByteArray → Prop} {col : Nat} {list : List ByteArray} {rs : List RowG} {e : Int} (h : ∀ s ∈ list, P s) (hr : RowsOk P rs) : RowsOk P (comeS col list rs e).1 := by
  rw [comeS]
  split
  · rename_i hk
    exact ⟨by have := comeF_len col list rs; show (comeF col list rs).length ≤ 4000; omega, comeGo_all P col list h _ _ _ hr.2⟩
  · exact hr
theorem eachG_ok {P : ByteArray → Prop} : ∀ (ls : List (List ByteArray)) (i : Nat) (rs : List RowG) (e : Int), (∀ l ∈ ls, ∀ s ∈ l, P s) → RowsOk P rs → RowsOk P (eachG i ls rs e).1
  | [], i, rs, e, _, hr => hr
  | l :: ls, i, rs, e, h, hr => eachG_ok ls (i + 1) _ _ (fun l hl => h l (List.mem_cons_of_mem _ hl)) (comeS_ok (h l List.mem_cons_self) hr)

set_option maxRecDepth 100000 in
set_option maxHeartbeats 4000000 in
theorem gap_each (g B c : Nat) (A : Option Addr) (lists : List (List ByteArray)) (w0 w : World) (h : RowsIn w B g [] 0) (hC : Kd.C (Kd.slice 9 Kd.string) w0 A lists.length lists) (hc : lists.length ≤ c) (hcol : lists.length ≤ 16)
    (hl : ∀ l ∈ lists, l.length ≤ 100000) (hz : ∀ l ∈ lists, ∀ s ∈ l, s.size ≤ maxLen) (hB : B = w0.heap.size) (hw : Below B w0 w) :
    Calls Try.prog 38 #[.slice A lists.length c, .func (.func 39) #[.pointer (some ⟨g, 0, none⟩)] #[]] w fun e' w' => e' = .returned (.tuple #[]) ∧
      Aside0 (RowsIn w' B g (eachG 0 lists [] 0).1 (eachG 0 lists [] 0).2) ∧ Aside0 (Below B w w') := by
  have HC := Aside0.mk hC
  have HL := Aside0.mk hl
  have HZ := Aside0.mk hz
  have HB := Aside0.mk hB
  have HW := Aside0.mk hw
  have HI := Aside0.mk h
  clear hC hl hz hB hw h
  go_enter Try.func38, Try.ntmps38
  go_wp2_with fail
  go_loopw [8] (fun i wr => ∃ k : Nat, k ≤ lists.length ∧ i = .int .i64 k ∧ Aside0 (RowsIn wr B g (eachG 0 (lists.take k) [] 0).1 (eachG 0 (lists.take k) [] 0).2) ∧ Aside0 (Below B w wr)) (fun i _ => lists.length - (intOf i).toNat)
  case atStart => exact ⟨0, Nat.zero_le _, rfl, HI, ⟨Below.refl _ _⟩⟩
  case round =>
    obtain ⟨k, hk, rfl, HIr, HBr⟩ := hrel
    by_cases hlt : k < lists.length
    · obtain ⟨ad, A5, c5, rfl, hrow, hc5, hC5⟩ := at_slice HC.out k hlt
      have HWr : Aside0 (Below B w0 wr) := ⟨HW.out.trans HBr.out⟩
      have HW2 : Aside0 (Below w0.heap.size w0 wr) := ⟨by rw [← HB.out]; exact HWr.out⟩
      replace hrow := (HW2.out.cell (World.block_lt_of_cell? w0 _ hrow)).trans hrow
      obtain ⟨l, hle⟩ : ∃ l, lists.getD k [] = l := ⟨_, rfl⟩
      have htk : lists.take (k + 1) = lists.take k ++ [l] := by rw [← hle, getD_get hlt, List.take_append_getElem hlt]
      have hlm : l ∈ lists := by rw [← hle, getD_get hlt]; exact List.getElem_mem hlt
      rw [hle] at hrow hc5 hC5
      have HC5 : Aside0 (Kd.C Kd.string wr A5 l.length l) := ⟨Kd.C_below hC5 HW2.out⟩
      have Hc5 := Aside0.mk hc5
      have HLM := Aside0.mk hlm
      have HTK := Aside0.mk htk
      have HOK : Aside0 (RowsOk (fun s => s.size ≤ maxLen) (eachG 0 (lists.take k) [] 0).1) := ⟨eachG_ok _ _ _ _ (fun l hl => HZ.out l (List.mem_of_mem_take hl)) ⟨by simp, by simp⟩⟩
      have HSN : Aside0 (eachG 0 (lists.take (k + 1)) [] 0 = comeS k l (eachG 0 (lists.take k) [] 0).1 (eachG 0 (lists.take k) [] 0).2) := ⟨by
        rw [htk, eachG_snoc, List.length_take_of_le hk, Nat.zero_add]⟩
      clear hc5 hC5 hle htk hlm
      go_wp2_with fail
      refine (rows_come g B k _ _ A5 c5 l _ HIr.out HC5.out Hc5.out (by omega) (by have := HOK.out.1; omega) (HL.out l HLM.out) HOK.out.2 (HZ.out l HLM.out) (by rw [HB.out]; exact HW2.out.size)).mono ?_
      rintro e' w' ⟨rfl, HI', HB'⟩
      go_wp2
      go_roundw
      case measure => simp [intOf]; omega
      case rel => exact ⟨k + 1, by omega, by go_num, by rw [HSN.out]; exact HI', ⟨HBr.out.trans HB'.out⟩⟩
    · have hk' : k = lists.length := by omega
      subst hk'
      rw [List.take_length] at HIr
      go_wp2
      go_end0
      exact ⟨rfl, HIr, HBr⟩
end Go.Proofs.Ytnlekganlliikaa.X
-- part XGap5
namespace Go.Proofs.Ytnlekganlliikaa.X
open Go.RowKit Go.Proofs.YtnlekganlliikaaW.PrintWords Go.Proofs.YtnlekganlliikaaW.PrintLast Go.Proofs.YtnlekganlliikaaW.PrintMore
set_option linter.unusedVariables false
set_option linter.unusedSimpArgs false
/-- Marks are 0 or 1. -/
def Bits (x : RowG) : Prop := ∀ m ∈ x.1, m = 0 ∨ m = 1
theorem oneRow_bits (col : Nat) (s : ByteArray) : Bits (oneRow col s) := by
  intro m hm
  rcases List.mem_or_eq_of_mem_set hm with h | h
  · exact .inl (List.eq_of_mem_replicate h)
  · exact .inr h
theorem set_bits {x : RowG} (col : Nat) (h : Bits x) : Bits (x.1.set col 1, x.2) := by
  intro m hm
  rcases List.mem_or_eq_of_mem_set hm with h' | h'
  · exact h m h'
  · exact .inr h'
theorem comeGo_bits (col : Nat) (list : List ByteArray) : ∀ (ms : List Int) (rs : List RowG) (a : Nat), (∀ x ∈ rs, Bits x) → ∀ x ∈ comeGo col list ms rs a, Bits x
  | [], rs, a, hr => by
    rw [comeGo_nil]
    intro x hx
    obtain ⟨s, hs, rfl⟩ := List.mem_map.1 hx
    exact oneRow_bits _ _
  | m :: ms, [], a, hr => by
    intro x hx
    obtain ⟨s, hs, rfl⟩ := List.mem_map.1 hx
    exact oneRow_bits _ _
  | m :: ms, y :: rs, a, hr => by
    have ih := comeGo_bits col list ms rs
    intro x hx
    have hy := hr y List.mem_cons_self
    have hr' : ∀ x ∈ rs, Bits x := fun x hx => hr x (List.mem_cons_of_mem _ hx)
    rw [comeGo] at hx
    split at hx
    · rcases List.mem_append.1 hx with hx | hx
      · obtain ⟨s, hs, rfl⟩ := List.mem_map.1 hx
        exact oneRow_bits _ _
      · rcases List.mem_cons.1 hx with rfl | hx
        · exact set_bits _ hy
        · exact ih _ hr' x hx
    · rcases List.mem_cons.1 hx with rfl | hx
      · exact hy
      · exact ih _ hr' x hx
theorem eachG_bits : ∀ (ls : List (List ByteArray)) (i : Nat) (rs : List RowG) (e : Int), (∀ x ∈ rs, Bits x) → ∀ x ∈ (eachG i ls rs e).1, Bits x
  | [], i, rs, e, hr => hr
  | l :: ls, i, rs, e, hr => by
    refine eachG_bits ls (i + 1) _ _ ?_
    rw [comeS]
    split
    · exact comeGo_bits _ _ _ _ _ hr
    · exact hr
def markB (m : Int) : UInt8 := if m = 0 then 32 else 45
def rowOut (n : Nat) (x : RowG) : S37 := ⟨⟨((x.1.map markB).take n).toArray⟩, x.2⟩
def gapF (lists : List (List ByteArray)) : List S37 × Int :=
  if 16 < lists.length then ([], 1) else if (eachG 0 lists [] 0).2 ≠ 0 then ([], (eachG 0 lists [] 0).2) else ((eachG 0 lists [] 0).1.map (rowOut lists.length), 0)
def gap_Coalesce.f (l0 : List (List ByteArray)) : Option (List S37 × Int) :=
  if ∀ l ∈ l0, l.length ≤ 100000 ∧ ∀ s ∈ l, s.size ≤ maxLen then some (gapF l0) else none
theorem bytes_snoc (x : RowG) (j : Nat) (h : j < x.1.length) (m : Int) (c : Int) (hm : x.1.getD j 0 = m) (hc : ((markB m).toNat : Int) = c) :
    Lib.byteCells ((x.1.take (j + 1)).map markB) = Lib.byteCells ((x.1.take j).map markB) ++ [.int .u8 c] := by
  have e : x.1.take (j + 1) = x.1.take j ++ [m] := by rw [← hm, getD_get h, List.take_append_getElem h]
  rw [e, List.map_append, ← hc]
  simp only [Lib.byteCells, List.map_append, List.map_cons, List.map_nil]

set_option maxRecDepth 100000 in
set_option maxHeartbeats 8000000 in
theorem gap_Coalesce.calls (A0 : Option Addr) (c0 : Nat) (l0 : List (List ByteArray)) (r1 : List S37) (r2 : Int) (w : World) (hr0 : Kd.C (Kd.slice 9 Kd.string) w A0 l0.length l0) (hc0 : l0.length ≤ c0) (h : gap_Coalesce.f l0 = some (r1, r2)) :
    Calls Try.prog 17 #[.slice A0 l0.length c0] w fun e w' => ∃ v0_ : Value, e = .returned (.tuple #[v0_, .int .i64 r2]) ∧ Kd.R k37 37 w' w.heap.size (fun _ => True) v0_ r1 ∧ Below w.heap.size w w' := by
  have HR0 := Aside0.mk hr0
  have HC0 := Aside0.mk hc0
  clear hr0 hc0
  unfold gap_Coalesce.f at h
  split at h
  · rename_i hf
    have HF := Aside0.mk hf
    clear hf
    have H : Aside0 (gapF l0 = (r1, r2)) := ⟨Option.some.inj h⟩
    clear h
    have hn := Kd.C_max HR0.out
    by_cases h16 : 16 < l0.length
    · have e : gapF l0 = ([], 1) := if_pos h16
      rw [e] at H
      obtain ⟨rfl, rfl⟩ := Prod.mk.inj H.out
      clear H e
      go_enter Try.func17, Try.ntmps17
      go_wp2
      go_ret2
      exact ⟨_, rfl, Kd.R_nil _ _ _ _ _, Below.refl _ _⟩
    · go_enter Try.func17, Try.ntmps17
      go_wp2_with fail
      have hbl := Below.alloc (Below.refl w.heap.size w) (Nat.le_refl _) (.cells #[.slice none 0 0, .int .i64 0] 57)
      have hI : RowsIn (w.alloc (.cells #[.slice none 0 0, .int .i64 0] 57)) w.heap.size w.heap.size [] 0 := ⟨_, blk_new _ _, Nat.le_refl _, Kd.R_nil _ _ _ _ _⟩
      refine (gap_each w.heap.size w.heap.size c0 A0 l0 w _ hI HR0.out HC0.out (by omega) (fun l hl => (HF.out l hl).1) (fun l hl => (HF.out l hl).2) rfl hbl).mono ?_
      rintro e2 w2 ⟨rfl, HI2, HB2⟩
      have HOK : Aside0 (RowsOk (fun s => s.size ≤ maxLen) (eachG 0 l0 [] 0).1) := ⟨eachG_ok _ _ _ _ (fun l hl => (HF.out l hl).2) ⟨by simp, by simp⟩⟩
      have HBI : Aside0 (∀ x ∈ (eachG 0 l0 [] 0).1, Bits x) := ⟨eachG_bits _ _ _ _ (by simp)⟩
      have HG : Aside0 (gapF l0 = if (eachG 0 l0 [] 0).2 ≠ 0 then ([], (eachG 0 l0 [] 0).2) else ((eachG 0 l0 [] 0).1.map (rowOut l0.length), 0)) := ⟨if_neg h16⟩
      rw [H.out] at HG
      obtain ⟨rs, hrs⟩ : ∃ rs, (eachG 0 l0 [] 0).1 = rs := ⟨_, rfl⟩
      obtain ⟨er, her⟩ : ∃ er, (eachG 0 l0 [] 0).2 = er := ⟨_, rfl⟩
      rw [hrs, her] at HI2 HG
      rw [hrs] at HOK HBI
      have HB : Aside0 (Below w.heap.size w w2) := ⟨hbl.trans HB2.out⟩
      clear hrs her hI hbl HB2
      obtain ⟨vg, q1, q2, q3⟩ := HI2.out
      have cg0 : w2.cell? ⟨w.heap.size, 0, none⟩ = some vg := cell_blk q1 rfl
      have cg1 : w2.cell? ⟨w.heap.size, 1, none⟩ = some (.int .i64 er) := cell_blk q1 rfl
      have Q3 := Aside0.mk q3
      clear q1 q2 q3
      have hlen := HOK.out.1
      by_cases he : er = 0
      · subst he
        rw [if_neg (by simp)] at HG
        obtain ⟨rfl, rfl⟩ := Prod.mk.inj HG.out
        clear HG H
        obtain ⟨Ag, cgp, rfl⟩ := Kd.R_slice Q3.out
        go_wp2_with fail
        go_loopw [5, 34] (fun o i wr => ∃ k : Nat, k ≤ rs.length ∧ i = .int .i64 k ∧ Aside0 (Kd.R k37 37 wr w2.heap.size (fun _ => True) o ((rs.take k).map (rowOut l0.length))) ∧ Aside0 (Below w2.heap.size w2 wr)) (fun _ i _ => rs.length - (intOf i).toNat)
        case atStart => exact ⟨0, Nat.zero_le _, rfl, ⟨Kd.R_nil _ _ _ _ _⟩, ⟨Below.refl _ _⟩⟩
        case round =>
          obtain ⟨k, hk, rfl, HO, HBr⟩ := hrel
          obtain ⟨wq, rfl⟩ : ∃ wq, wq = wr := ⟨_, rfl⟩
          by_cases hlt : k < rs.length
          · obtain ⟨gb, cap, hev, _, hCk⟩ := kRow_form Q3.out (by omega)
            injection hev with e1 e2 e3
            subst e1; subst e3
            clear e2
            obtain ⟨h16r, hrg⟩ := at_row hCk k hlt
            replace hrg := range_below hrg HBr.out
            have htk : rs.take (k + 1) = rs.take k ++ [rs.getD k ([], ByteArray.empty)] := by rw [getD_get hlt, List.take_append_getElem hlt]
            have hxm : rs.getD k ([], ByteArray.empty) ∈ rs := by rw [getD_get hlt]; exact List.getElem_mem hlt
            have hbx := HBI.out _ hxm
            obtain ⟨x, hx⟩ : ∃ x, rs.getD k ([], ByteArray.empty) = x := ⟨_, rfl⟩
            rw [hx] at h16r hrg htk hbx
            have HX16 := Aside0.mk h16r
            have HRG : Aside0 (wq.rangeAt gb (k * 17) (rowCells x)) := ⟨hrg⟩
            have HTK := Aside0.mk htk
            have HBX := Aside0.mk hbx
            have hl17 := rowCells_len h16r
            have hfold := fold_row h16r
            obtain ⟨Ao, co, rfl⟩ := Kd.R_slice HO.out
            have HNO : Aside0 (((rs.take k).map (rowOut l0.length)).length = k) := ⟨by simp; omega⟩
            rw [HNO.out] at HO ⊢
            clear hrg hx hxm htk hbx hCk h16r
            go_wp2_with (first
              | ((with_reducible refine gate_dst (N := 37) rfl ?_); refine wpList_load_mid rfl 63 _ rfl gb (k * 17) (by rfl) (rowCells x) _ HRG.out Try.underlying63 rfl (size_row' HX16.out) ?_)
              | ((with_reducible refine gate_store (t := 63) (p := 7) rfl ?_); refine wpList_store_row rfl 63 7 _ rfl rfl (b := wq.heap.size) rfl rfl (c' := (rowCells x).toArray) rfl (size_row HX16.out) (by rw [show (rowCells x).toArray.size = 17 from rowCells_len HX16.out]; rfl) rowCells_one ?_; intro w3 hb3 hl3 hz3; have HX3 := Aside0.mk hb3; have HL3 := Aside0.mk hl3; clear hb3 hl3 hz3))
            have hx16 := HX16.out
            go_loopw [43] (fun i wr => ∃ j : Nat, j ≤ l0.length ∧ i = .int .i64 j ∧ Aside0 (Lib.IsBuilder 67 5 w3.heap.size w3.heap.size (Lib.byteCells ((x.1.take j).map markB)) wr) ∧ Aside0 (Below w3.heap.size w3 wr)) (fun i _ => l0.length - (intOf i).toNat)
            case atStart => exact ⟨0, Nat.zero_le _, rfl, ⟨Lib.fresh_isBuilder _ _ _⟩, ⟨(Below.refl _ w3).alloc (Nat.le_refl _) _⟩⟩
            case round =>
              obtain ⟨j, hj, rfl, HIj, HBj⟩ := hrel
              have HXj : Aside0 (wr.heap[wq.heap.size]? = some (.cells (rowCells x).toArray 63 (0, 0))) := ⟨keep_ HX3.out HBj.out⟩
              by_cases hjl : j < l0.length
              · have hjx : j < x.1.length := by omega
                have hm01 := HBX.out _ (List.getElem_mem hjx)
                have hcj : wr.cell? ⟨wq.heap.size, j, none⟩ = some (.int .u8 (x.1.getD j 0)) := by rw [cell_of_row _ _ _ _ _ _ HXj.out, List.getElem?_toArray, getD_get hjx]; exact rowCells_get hjx
                rw [← getD_get (d := 0) hjx] at hm01
                obtain ⟨m, hm⟩ : ∃ m, x.1.getD j 0 = m := ⟨_, rfl⟩
                rw [hm] at hm01 hcj
                rcases hm01 with rfl | rfl
                · go_wp2_with fail
                  refine (writeByte_calls _ _ _ _ _ HIj.out (by rw [Lib.byteCells_length]; simp; omega) (by have := HBj.out.size; omega)).mono ?_
                  rintro e5 w5 ⟨rfl, h5, hb5⟩
                  have H5 := Aside0.mk h5
                  have HB5 := Aside0.mk hb5
                  clear h5 hb5
                  go_wp2
                  go_roundw
                  case measure => simp [intOf]; omega
                  case rel => exact ⟨j + 1, by omega, by go_num, ⟨by rw [bytes_snoc x j hjx _ _ hm rfl]; exact .inr H5.out⟩, ⟨HBj.out.trans HB5.out⟩⟩
                · go_wp2_with fail
                  refine (writeByte_calls _ _ _ _ _ HIj.out (by rw [Lib.byteCells_length]; simp; omega) (by have := HBj.out.size; omega)).mono ?_
                  rintro e5 w5 ⟨rfl, h5, hb5⟩
                  have H5 := Aside0.mk h5
                  have HB5 := Aside0.mk hb5
                  clear h5 hb5
                  go_wp2
                  go_roundw
                  case measure => simp [intOf]; omega
                  case rel => exact ⟨j + 1, by omega, by go_num, ⟨by rw [bytes_snoc x j hjx _ _ hm rfl]; exact .inr H5.out⟩, ⟨HBj.out.trans HB5.out⟩⟩
              · have hj' : j = l0.length := by omega
                subst hj'
                have HWj : Aside0 (Below wq.heap.size wq wr) := ⟨far_ HL3.out HBj.out⟩
                have HOj : Aside0 (Kd.R k37 37 wr w2.heap.size (fun _ => True) (.slice Ao k co) ((rs.take k).map (rowOut l0.length))) := ⟨Kd.R_below HO.out HWj.out⟩
                have h16c : (rowCells x).toArray[16]? = some (.string x.2) := by simpa using rowCells_text HX16.out
                have xj : wr.cell? ⟨wq.heap.size, 16, none⟩ = some (.string x.2) := cell_blk HXj.out h16c
                have HSB : Aside0 (w3.heap.size ≤ wr.drew.heap.size) := ⟨HBj.out.drew.size⟩
                have HL3s : Aside0 (wq.heap.size < w3.heap.size) := ⟨blk_lt HX3.out⟩
                have HB2j : Aside0 (Below w2.heap.size w2 wr) := ⟨HBr.out.trans (HWj.out.mono HBr.out.size)⟩
                have HIDw : Aside0 (Lib.IsBuilder 67 5 w3.heap.size w3.heap.size (Lib.byteCells ((x.1.take l0.length).map markB)) wr.drew) := ⟨HIj.out⟩
                go_wp2
                refine start_ (n := 8) (S := fun w' => w'.cell? ⟨wq.heap.size, 16, none⟩ = some (.string x.2)) (ds := []) #[false, false, false, false, false, false, false, false] (by kernel_rfl) rfl rfl (xj) (fun hHeld => ?_)
                refine pure_ (i := 0) (N := some 51) (v := ?_) (a' := ?_) #[true, false, false, false, false, false, false, false] rfl rfl (by kernel_rfl) (fun _ _ _ h => h) (Or.inl ⟨by rfl, ?_⟩) ?_ ?_
                rotate_left
                · intro w'
                  go_simp
                  with_reducible rfl
                rotate_left
                · simp only [Act.put, List.setIfInBounds_toArray, List.set_cons_zero, List.set_cons_succ, i64_w, i32_w]
                  rfl
                refine pure_ (i := 2) (N := some 53) (v := ?_) (a' := ?_) #[true, false, true, false, false, false, false, false] rfl rfl (by kernel_rfl) (fun _ _ _ h => h) (Or.inl ⟨by rfl, ?_⟩) ?_ ?_
                rotate_left
                · intro w'
                  go_simp
                  with_reducible rfl
                rotate_left
                · simp only [Act.put, List.setIfInBounds_toArray, List.set_cons_zero, List.set_cons_succ, i64_w, i32_w]
                  rfl
                refine take_ (i := 3) (N := some 54) (v := ?_) (a' := ?_) #[true, false, true, true, false, false, false, false] rfl rfl (by kernel_rfl) (fun _ _ _ h => h) (Or.inl ⟨by rfl, ?_⟩) hHeld ?_ ?_
                rotate_left
                · intro w' s0
                  go_simp
                  with_reducible rfl
                rotate_left
                · simp only [Act.put, List.setIfInBounds_toArray, List.set_cons_zero, List.set_cons_succ, i64_w, i32_w]
                  rfl
                refine one_ (i := 1) (N := some 52) #[true, true, true, true, false, false, false, false] rfl rfl (by kernel_rfl) (by decide) (fun K hK => ?_)
                refine goes_ Try.func41 (by kernel_rfl) rfl #[.pointer (some ⟨w3.heap.size, 0, none⟩)] (by rfl) rfl rfl (by simp only [List.map_toArray, List.map_cons, List.map_nil]; rfl) ?_
                with_reducible refine (Try.Builder_String_any w3.heap.size w3.heap.size ((x.1.take l0.length).map markB) wr.drew HIDw.out HSB.out).mono ?_
                rintro e8 w8 ⟨rfl, hb8⟩
                refine ⟨_, rfl, ?_⟩
                have HB8 : Aside0 (Below wr.heap.size wr w8 ∨ Below w3.heap.size wr w8) := ⟨.inr ((Below.refl _ wr).drew.trans hb8)⟩
                have HC8 : Aside0 (Below w3.heap.size wr w8) := ⟨(Below.refl _ wr).drew.trans hb8⟩
                have HX8 : Aside0 (w8.heap[wq.heap.size]? = some (.cells (rowCells x).toArray 63 (0, 0))) := ⟨(HC8.out.block _ HL3s.out).trans HXj.out⟩
                have HO8 : Aside0 (Kd.R k37 37 w8 w2.heap.size (fun _ => True) (.slice Ao k co) ((rs.take k).map (rowOut l0.length))) := ⟨Kd.R_below HO.out (HWj.out.trans (HC8.out.mono (Nat.le_of_lt HL3s.out)))⟩
                have HD8 : Aside0 (Below w2.heap.size w2 w8) := ⟨HB2j.out.trans (HC8.out.mono (by have := HBr.out.size; have := HL3s.out; omega))⟩
                have x8 : w8.cell? ⟨wq.heap.size, 16, none⟩ = some (.string x.2) := cell_blk HX8.out h16c
                refine hK.out _ _ (x8) (fun hHeld => ?_)
                clear hK K
                refine norm_ (a' := ?_) ?_ ?_
                rotate_left
                · show Act.put _ (some 52) _ = _
                  simp only [Act.put, List.setIfInBounds_toArray, List.set_cons_zero, List.set_cons_succ, i64_w, i32_w]
                  rfl
                refine pure_ (i := 4) (N := some 55) (v := ?_) (a' := ?_) #[true, true, true, true, true, false, false, false] rfl rfl (by kernel_rfl) (fun _ _ _ h => h) (Or.inl ⟨by rfl, ?_⟩) ?_ ?_
                rotate_left
                · intro w'
                  go_simp
                  with_reducible rfl
                rotate_left
                · simp only [Act.put, List.setIfInBounds_toArray, List.set_cons_zero, List.set_cons_succ, i64_w, i32_w]
                  rfl
                refine one_ (i := 5) (N := some 56) #[true, true, true, true, true, true, false, false] rfl rfl (by kernel_rfl) (by decide) (fun K hK => ?_)
                refine value_ (w1 := ?_) (v := ?_) (by rfl) rfl ?_ ?_
                rotate_left 2
                · go_simp
                  constructor
                  · rfl
                  · rfl
                refine hK.out _ _ (cell_alloc_of x8 _) (fun hHeld => ?_)
                clear hK K
                refine norm_ (a' := ?_) ?_ ?_
                rotate_left
                · show Act.put _ (some 56) _ = _
                  simp only [Act.put, List.setIfInBounds_toArray, List.set_cons_zero, List.set_cons_succ, i64_w, i32_w]
                  rfl
                refine one_ (i := 6) (N := some 57) #[true, true, true, true, true, true, true, false] rfl rfl (by kernel_rfl) (by decide) (fun K hK => ?_)
                refine Kd.R_append_step k37 (w0 := w2) w2.heap.size (by rfl) (.tmp 51) (.tmp 56) 25 37 (.agg #[(.string ⟨#[]⟩), (.string ⟨#[]⟩)]) 32 rfl Try.underlying25 info37 rfl (by decide) (by omega) (.slice Ao k co) ((rs.take k).map (rowOut l0.length)) (rowOut l0.length x) [.string ⟨((x.1.map markB).take l0.length).toArray⟩, .string x.2] (fun _ => True) (fun _ => False) rfl rfl ?aP (fun _ hk => hk.elim) ?aF ?aO ?aB ?aS ?aL ?_
                (case aP => exact k37_mkM _ _ _ (rowOut l0.length x))
                (case aF => exact (fun _ _ => trivial))
                (case aO => exact (by (with_reducible repeat (first | apply Kd.R_alloc | apply Kd.R_drewN | apply Kd.R_drew)); exact HO8.out))
                (case aB => exact (by repeat (first | (with_reducible first | exact HD8.out | apply below_alloc | apply pw_below_drewN | apply below_drew1) | exact HD8.out)))
                (case aS => exact (below_size (by repeat (first | (with_reducible first | exact HD8.out | apply below_alloc | apply pw_below_drewN | apply below_drew1) | exact HD8.out))))
                (case aL => rw [HNO.out]; omega)
                intro v9 w9 ho9 hb9 hg9 hat9
                have HO9 := Aside0.mk ho9
                have HB9 := Aside0.mk hb9
                have x9 : w9.cell? ⟨wq.heap.size, 16, none⟩ = some (.string x.2) := cell_blk ((hg9.block _ (blk_lt HX8.out) (Kd.R_ne HO8.out HX8.out (by decide))).trans HX8.out) h16c
                clear ho9 hb9 hg9 hat9
                refine hK.out _ _ (x9) (fun hHeld => ?_)
                clear hK K
                refine norm_ (a' := ?_) ?_ ?_
                rotate_left
                · show Act.put _ (some 57) _ = _
                  simp only [Act.put, List.setIfInBounds_toArray, List.set_cons_zero, List.set_cons_succ, i64_w, i32_w]
                  rfl
                refine pure_ (i := 7) (N := some 5) (v := ?_) (a' := ?_) #[true, true, true, true, true, true, true, true] rfl rfl (by kernel_rfl) (fun _ _ _ h => h) (Or.inl ⟨by rfl, ?_⟩) ?_ ?_
                rotate_left
                · intro w'
                  go_simp
                  with_reducible rfl
                rotate_left
                · simp only [Act.put, List.setIfInBounds_toArray, List.set_cons_zero, List.set_cons_succ, i64_w, i32_w]
                  rfl
                refine done_ (by kernel_rfl) ?_

                go_wp2
                go_roundw
                case measure => simp [intOf]; omega
                case rel => exact ⟨k + 1, by omega, by go_num, ⟨by rw [HTK.out, List.map_append]; exact HO9.out⟩, HB9⟩
          · have hk' : k = rs.length := by omega
            subst hk'
            rw [List.take_length] at HO
            go_wp2
            go_ret2
            exact ⟨_, rfl, Kd.R_lower HO.out HB.out.size, HB.out.trans (HBr.out.mono HB.out.size)⟩
      · rw [if_pos he] at HG
        obtain ⟨rfl, rfl⟩ := Prod.mk.inj HG.out
        clear HG H
        go_wp2
        refine start_ (n := 6) (S := fun w' => w'.cell? ⟨w.heap.size, 1, none⟩ = some (.int .i64 r2)) (ds := []) #[false, false, false, false, false, false] (by kernel_rfl) rfl rfl (cg1) (fun hHeld => ?_)
        refine pure_ (i := 0) (N := some 25) (v := ?_) (a' := ?_) #[true, false, false, false, false, false] rfl rfl (by kernel_rfl) (fun _ _ _ h => h) (Or.inl ⟨by rfl, ?_⟩) ?_ ?_
        rotate_left
        · intro w'
          go_simp
          with_reducible rfl
        rotate_left
        · simp only [Act.put, List.setIfInBounds_toArray, List.set_cons_zero, List.set_cons_succ, i64_w, i32_w]
          rfl
        refine pure_ (i := 1) (N := some 26) (v := ?_) (a' := ?_) #[true, true, false, false, false, false] rfl rfl (by kernel_rfl) (fun _ _ _ h => h) (Or.inl ⟨by rfl, ?_⟩) ?_ ?_
        rotate_left
        · intro w'
          go_simp
          with_reducible rfl
        rotate_left
        · simp only [Act.put, List.setIfInBounds_toArray, List.set_cons_zero, List.set_cons_succ, i64_w, i32_w]
          rfl
        refine pure_ (i := 2) (N := some 27) (v := ?_) (a' := ?_) #[true, true, true, false, false, false] rfl rfl (by kernel_rfl) (fun _ _ _ h => h) (Or.inl ⟨by rfl, ?_⟩) ?_ ?_
        rotate_left
        · intro w'
          go_simp
          with_reducible rfl
        rotate_left
        · simp only [Act.put, List.setIfInBounds_toArray, List.set_cons_zero, List.set_cons_succ, i64_w, i32_w]
          rfl
        refine pure_ (i := 4) (N := some 2) (v := ?_) (a' := ?_) #[true, true, true, false, true, false] rfl rfl (by kernel_rfl) (fun _ _ _ h => h) (Or.inl ⟨by rfl, ?_⟩) ?_ ?_
        rotate_left
        · intro w'
          go_simp
          with_reducible rfl
        rotate_left
        · simp only [Act.put, List.setIfInBounds_toArray, List.set_cons_zero, List.set_cons_succ, i64_w, i32_w]
          rfl
        refine take_ (i := 3) (N := some 28) (v := ?_) (a' := ?_) #[true, true, true, true, true, false] rfl rfl (by kernel_rfl) (fun _ _ _ h => h) (Or.inl ⟨by rfl, ?_⟩) hHeld ?_ ?_
        rotate_left
        · intro w' s0
          go_simp
          with_reducible rfl
        rotate_left
        · simp only [Act.put, List.setIfInBounds_toArray, List.set_cons_zero, List.set_cons_succ, i64_w, i32_w]
          rfl
        refine pure_ (i := 5) (N := some 3) (v := ?_) (a' := ?_) #[true, true, true, true, true, true] rfl rfl (by kernel_rfl) (fun _ _ _ h => h) (Or.inl ⟨by rfl, ?_⟩) ?_ ?_
        rotate_left
        · intro w'
          go_simp
          with_reducible rfl
        rotate_left
        · simp only [Act.put, List.setIfInBounds_toArray, List.set_cons_zero, List.set_cons_succ, i64_w, i32_w]
          rfl
        refine done_ (by kernel_rfl) ?_

        go_wp2
        go_ret2
        exact ⟨_, rfl, Kd.R_nil _ _ _ _ _, HB.out.drew⟩
  · cases h
end Go.Proofs.Ytnlekganlliikaa.X
-- part XPut
namespace Go.Proofs.Ytnlekganlliikaa.X
open Go.RowKit Go.Proofs.YtnlekganlliikaaW.PrintWords Go.Proofs.YtnlekganlliikaaW.PrintLast Go.Proofs.YtnlekganlliikaaW.PrintMore
open Go.Maps
set_option linter.unusedVariables false
set_option linter.unusedSimpArgs false
/-- The rows of what is lost ahead of a line. -/
def lostRows (x : Option (List (List ByteArray))) : List S37 := match x with | none => [] | some ls => (rowsOf ls).map (rowOut ls.length)
set_option maxRecDepth 100000 in
set_option maxHeartbeats 4000000 in
theorem put_calls (w0 w : World) (B g N cp cnt line : Nat) (Ap : Option Addr) (marks : List ByteArray) (lost : Nat → Option (List (List ByteArray))) (out : List S37)
    (hB : B = w0.heap.size) (hw : Below B w0 w) (h : MakerIn w0 w B g N Ap cp cnt marks lost out 0) (hline : line ≤ 1000000) (hN : N ≤ 1000) (hok : ∀ ls, lost line = some ls → gap_Coalesce.f ls = some ((rowsOf ls).map (rowOut ls.length), 0)) (hout : out.length + (lostRows (lost line)).length ≤ 1000000000) :
    Calls Try.prog 46 #[.pointer (some ⟨g, 0, none⟩), .int .i64 (line : Int)] w fun e' w' => e' = .returned (.tuple #[]) ∧
      Aside0 (MakerIn w0 w' B g N Ap cp cnt marks lost (out ++ lostRows (lost line)) 0) ∧ Aside0 (Below B w w') := by
  have HW := Aside0.mk hw
  have HB := Aside0.mk hB
  have HI := Aside0.mk h
  have HOK := Aside0.mk hok
  have HOUT := Aside0.mk hout
  have HBW : Aside0 (B ≤ w.heap.size) := ⟨by rw [hB]; exact (by rw [hB] at hw; exact hw.size)⟩
  obtain ⟨vm, gm, vo, h1, h2, h3, h4, h5⟩ := h
  have cg : w.cell? ⟨g, 2, none⟩ = some (.map (some gm)) := cell_blk h1 rfl
  have cg3 : w.cell? ⟨g, 3, none⟩ = some vo := cell_blk h1 rfl
  have heq : ∀ (A : Option Addr) (l c : Nat) (W : World), (binOp .eql 22 (.slice A l c) (.slice none 0 0)).run Try.prog W = .ok (.bool A.isNone) W := fun A l c W => _root_.Go.run_eql_slice_nil W 22 34 A l c Try.underlying22
  rcases h5.look line hline with ⟨hno, hlk⟩ | ⟨ls, g1, hls, hg1, hr1, hlk⟩
  · rw [hno] at HOUT ⊢
    have HNO := Aside0.mk hno
    clear hw hB hok hout h1 h2 h3 h4 h5 hno
    go_enter Try.func46, Try.ntmps46
    go_wp2
    refine bodyPost_ret (v := .tuple #[]) (by simp [results, Try.results46, go_sem]) rfl ?_
    exact ⟨rfl, ⟨by simpa [lostRows] using HI.out⟩, ⟨Below.refl _ _⟩⟩
  · rw [hls] at HOUT ⊢
    have HLS := Aside0.mk hls
    have HR1 := Aside0.mk hr1
    have H1 := Aside0.mk h1
    have H2 := Aside0.mk h2
    have H3 := Aside0.mk h3
    have H4 := Aside0.mk h4
    have H5 := Aside0.mk h5
    have hww : Below w0.heap.size w0 w := by rw [← hB]; exact hw
    have hlsN : ls.length = N := hr1.1
    have HC : Aside0 (KS.C w (some ⟨g1, 0, none⟩) ls.length ls) := ⟨hr1.C (by omega) hww⟩
    have hf := hok ls hls
    have hl : lostRows (some ls) = (rowsOf ls).map (rowOut ls.length) := rfl
    rw [hl] at HOUT ⊢
    obtain ⟨ys, hys⟩ : ∃ ys, (rowsOf ls).map (rowOut ls.length) = ys := ⟨_, rfl⟩
    rw [hys] at hf HOUT ⊢
    have HF := Aside0.mk hf
    obtain ⟨Ao, co, rfl⟩ := Kd.R_slice h4
    clear hw hB hok hout h1 h2 h3 h4 h5 hls hr1 hww hf hl hys
    subst hlsN
    go_enter Try.func46, Try.ntmps46
    go_wp2_with fail
    refine (gap_Coalesce.calls (some ⟨g1, 0, none⟩) ls.length ls _ _ _ HC.out (Nat.le_refl _) HF.out).mono ?_
    rintro e w1 ⟨v1, rfl, hr, hb⟩
    obtain ⟨A1, c1, rfl⟩ := Kd.R_slice hr
    have HI1 := Aside0.mk (HI.out.below hb)
    have HC1 : Aside0 (Kd.C k37 w1 A1 ys.length ys) := ⟨(Kd.R_reads' hr).2.2⟩
    have HB1 : Aside0 (Below B w w1) := ⟨hb.mono HBW.out⟩
    have h11 := keep_ H1.out hb
    have H41 := Aside0.mk (Kd.R_below H4.out hb)
    have H31 := Aside0.mk (Kd.R_below H3.out hb)
    have H51 := Aside0.mk (H5.out.below hb)
    have H11 := Aside0.mk h11
    have cg31 : w1.cell? ⟨g, 3, none⟩ = some (.slice Ao out.length co) := cell_blk h11 rfl
    obtain ⟨m, hm⟩ : ∃ m, ys.length = m := ⟨_, rfl⟩
    have HM := Aside0.mk hm
    rw [hm] at HOUT HC1 ⊢
    clear hr hb h11 hm HF hlk
    go_wp2_with (first
      | (at_builtin; refine Kd.R_append_rows k37 (Rr := k37.K w1) (w0 := w) B rfl (.tmp 33) (.tmp 34) 25 37 (.agg #[(.string ⟨#[]⟩), (.string ⟨#[]⟩)]) 32 rfl Try.underlying25 info37 rfl (by decide) (by decide) (.slice Ao out.length co) out ys A1 m c1 (fun _ => True) (fun _ => False) rfl rfl H41.out HC1.out (fun x cs hx => by obtain rfl := k37_open hx; exact k37_mkM _ _ _ x) (fun _ h => h.elim) (fun _ _ => trivial) HB1.out (by have := HB1.out.size; have := HBW.out; omega) (by have := HOUT.out; omega) ?_; intro v2 w2 ho2 hb2 hg2 hat2; obtain ⟨A2, c2, hv2⟩ := Kd.R_slice ho2; subst hv2; have h12 := (hg2.block g (blk_lt H11.out) (Kd.R_ne H41.out H11.out (by decide))).trans H11.out; have c32 : w2.cell? ⟨g, 3, none⟩ = some (.slice Ao out.length co) := cell_blk h12 rfl; have f32 : w2.frozen? ⟨g, 3, none⟩ = false := frozen_of_row _ _ _ _ _ h12; have HO2 := Aside0.mk ho2; have HB2 := Aside0.mk hb2; have HG2 := Aside0.mk hg2; have H12 := Aside0.mk h12; clear ho2 hb2 hg2 hat2 h12 cg31))
    go_end0
    have hne : ∀ (k : Nat) (cells : Array Value) (q : TypeId) (fr : Nat × Nat), w1.heap[k]? = some (.cells cells q fr) → q ≠ 37 → w2.heap[k]? = w1.heap[k]? := fun k cells q fr hk hq => HG2.out.block k (Array.getElem?_eq_some_iff.1 hk).1 (fun e => by
      obtain ⟨cs, hcs⟩ := Kd.R_typed H41.out k e.symm
      rw [hcs] at hk; injection hk with hk; injection hk with _ hk; exact hq hk.symm)
    have h3' : Kd.R Kd.string 9 w2 B (fun _ => True) vm marks := Kd.R_map H31.out (fun k cells q fr hk hq => hne k cells q fr hk (by
      have : q = 9 := by simpa [Kd.string, Kd.scalar] using hq
      rw [this]; decide))
    have h5' : LostIn w0 w2 B gm ls.length cnt lost := H51.out.step fun k hk hq => HG2.out.block k hk (fun e => by
      obtain ⟨cs, hcs⟩ := Kd.R_typed H41.out k e.symm
      have := hq _ _ _ hcs
      exact absurd this (by decide))
    refine ⟨rfl, ⟨⟨vm, gm, .slice A2 (out ++ ys).length c2, ?_, H2.out, Kd.R_set h3' H12.out (by decide) _ _, Kd.R_set HO2.out H12.out (by decide) _ _, h5'.set H12.out (by decide) _⟩⟩, ⟨HB2.out.setCell (p := ⟨g, 3, none⟩) H2.out _⟩⟩
    rw [heap_set_same H12.out]
    simp
end Go.Proofs.Ytnlekganlliikaa.X
-- part XRef03
namespace Go.Proofs.Ytnlekganlliikaa.X
open Go.RowKit Go.Proofs.YtnlekganlliikaaW.PrintWords Go.Proofs.YtnlekganlliikaaW.PrintLast Go.Proofs.YtnlekganlliikaaW.PrintMore
set_option linter.unusedVariables false
set_option linter.unusedSimpArgs false
theorem rd_of {L : List Int} {i : Nat} {x : Int} (h : L[i]? = some x) : rd L (i : Int) = x := by
  simp [rd, h]

/-- The table, from the place (i, c) on; noughts ahead. -/
def Tab (a b : List Int) (i c : Nat) (T : List Int) : Prop :=
  T.length = (a.length + 1) * (b.length + 1) ∧ ∀ i' j', i' ≤ a.length → j' ≤ b.length → T[i' * (b.length + 1) + j']? = some (if i < i' ∨ i = i' ∧ c ≤ j' then ((lcsL (a.drop i') (b.drop j') : Nat) : Int) else 0)
section
variable {a b T : List Int}
theorem tab_place {n m i j : Nat} (hi : i ≤ n) (hj : j ≤ m) : i * (m + 1) + j < (n + 1) * (m + 1) := place_lt (by omega) (by omega)
theorem tab_ne {m i j i' j' : Nat} (hj : j ≤ m) (hj' : j' ≤ m) (h : i * (m + 1) + j = i' * (m + 1) + j') : i = i' ∧ j = j' := by
  have h1 := place_div (m := m + 1) (i := i) (j := j) (by omega)
  have h2 := place_div (m := m + 1) (i := i') (j := j') (by omega)
  rw [h] at h1
  exact ⟨h1.1.symm.trans h2.1, h1.2.symm.trans h2.2⟩
theorem Tab.first (h : Tab a b a.length b.length T) : Tab a b a.length 0 T := by
  refine ⟨h.1, fun i' j' hi hj => ?_⟩
  rw [h.2 i' j' hi hj]
  congr 1
  by_cases e : i' = a.length
  · subst e
    rw [if_pos (show a.length < a.length ∨ a.length = a.length ∧ 0 ≤ j' by omega), show a.drop a.length = [] from List.drop_of_length_le (by omega), lcsL_nil_left]
    split <;> rfl
  · rw [if_neg (show ¬ (a.length < i' ∨ a.length = i' ∧ b.length ≤ j') by omega), if_neg (show ¬ (a.length < i' ∨ a.length = i' ∧ 0 ≤ j') by omega)]
theorem Tab.put {i c : Nat} (h : Tab a b i (c + 1) T) (hi : i ≤ a.length) (hc : c ≤ b.length) : Tab a b i c (T.set (i * (b.length + 1) + c) ((lcsL (a.drop i) (b.drop c) : Nat) : Int)) := by
  refine ⟨by simpa using h.1, fun i' j' hi' hj' => ?_⟩
  by_cases e : i' = i ∧ j' = c
  · obtain ⟨rfl, rfl⟩ := e
    rw [List.getElem?_set_self (by rw [h.1]; exact tab_place hi hc), if_pos (by omega)]
  · rw [List.getElem?_set_ne (fun h2 => e (by have := tab_ne hc hj' h2; omega)), h.2 i' j' hi' hj']
    congr 1
    by_cases e2 : i < i' ∨ i = i' ∧ c + 1 ≤ j'
    · rw [if_pos e2, if_pos (by omega)]
    · rw [if_neg e2, if_neg (by omega)]
theorem Tab.at_ {i c i' j' : Nat} (h : Tab a b i c T) (hi : i' ≤ a.length) (hj : j' ≤ b.length) (hd : i < i' ∨ i = i' ∧ c ≤ j') : rd T ((i' : Int) * ((b.length : Int) + 1) + (j' : Int)) = ((lcsL (a.drop i') (b.drop j') : Nat) : Int) := by
  have := h.2 i' j' hi hj
  rw [if_pos hd] at this
  have e := rd_of this
  rw [← e]
  congr 1
end
section
variable {a b : List Int}
end
end Go.Proofs.Ytnlekganlliikaa.X
-- part XRef19
namespace Go.Proofs.Ytnlekganlliikaa.X
open Go.RowKit Go.Proofs.YtnlekganlliikaaW.PrintWords Go.Proofs.YtnlekganlliikaaW.PrintLast Go.Proofs.YtnlekganlliikaaW.PrintMore
set_option linter.unusedVariables false
set_option linter.unusedSimpArgs false
abbrev ApiRow := S37
theorem apiRow_ext {x y : ApiRow} (h0 : x.f0 = y.f0) (h1 : x.f1 = y.f1) : x = y := by
  cases x; cases y; cases h0; cases h1; rfl
instance apiRowDec : DecidableEq ApiRow := fun x y => decidable_of_iff (x.f0 = y.f0 ∧ x.f1 = y.f1) ⟨fun h => apiRow_ext h.1 h.2, fun h => by rw [h]; exact ⟨rfl, rfl⟩⟩
/-- A string of bytes. -/
def bs (l : List UInt8) : ByteArray := ⟨l.toArray⟩
theorem bs_append (a b : List UInt8) : bs a ++ bs b = bs (a ++ b) := by
  apply ByteArray.ext
  simp [bs, ByteArray.data_append]
theorem bs_size (a : List UInt8) : (bs a).size = a.length := by simp [bs, ByteArray.size]
section
variable {col : Nat} {list : List ByteArray} {R : List ApiRow} {ms : List Int}
end
theorem rowOut_f0 (n : Nat) (x : RowG) : (rowOut n x).f0 = bs ((x.1.map markB).take n) := rfl
end Go.Proofs.Ytnlekganlliikaa.X
-- part XGapTells
namespace Go.Proofs.Ytnlekganlliikaa.X
open Go.RowKit Go.Proofs.YtnlekganlliikaaW.PrintWords Go.Proofs.YtnlekganlliikaaW.PrintLast Go.Proofs.YtnlekganlliikaaW.PrintMore
set_option linter.unusedVariables false
set_option linter.unusedSimpArgs false
theorem sumLen_take (n : Nat) : ∀ (ls : List (List ByteArray)) (i : Nat), (∀ l ∈ ls, l.length ≤ n) → sumLen (ls.take i) ≤ i * n
  | [], i, h => by simp [sumLen]
  | l :: ls, 0, h => by simp [sumLen]
  | l :: ls, i + 1, h => by
    have h1 := sumLen_take n ls i (fun x hx => h x (List.mem_cons_of_mem _ hx))
    have h2 := h l List.mem_cons_self
    rw [Nat.succ_mul]
    simp only [sumLen, List.take_succ_cons, List.map_cons, List.sum_cons] at h1 ⊢
    omega
theorem eachG_rows : ∀ (ls : List (List ByteArray)) (i : Nat) (rs : List RowG) (e : Int), (∀ l ∈ ls, l.length ≤ 2000) → rs.length + sumLen ls ≤ 2000 → eachG i ls rs e = (rowsFrom i ls rs, e)
  | [], i, rs, e, _, _ => rfl
  | l :: ls, i, rs, e, h, hs => by
    have hl := h l List.mem_cons_self
    have h2 := comeF_len i l rs
    simp only [sumLen, List.map_cons, List.sum_cons] at hs
    rw [eachG, comeS, if_pos ⟨by omega, hl⟩, rowsFrom]
    exact eachG_rows ls (i + 1) _ e (fun x hx => h x (List.mem_cons_of_mem _ hx)) (by simp only [sumLen]; omega)
theorem gapF_rows {ls : List (List ByteArray)} (h1 : ls.length ≤ 16) (hs : sumLen ls ≤ 2000) : gapF ls = ((rowsOf ls).map (rowOut ls.length), 0) := by
  have hle : ∀ l ∈ ls, l.length ≤ sumLen ls := by
    intro l hl
    obtain ⟨a, b, rfl⟩ := List.append_of_mem hl
    simp [sumLen]; omega
  rw [gapF, if_neg (by omega), eachG_rows ls 0 [] 0 (fun l hl => by have := hle l hl; omega) (by simpa using hs), if_neg (fun h => h rfl)]
  rfl
theorem gap_rows {ls : List (List ByteArray)} (h1 : ls.length ≤ 16) (hs : sumLen ls ≤ 2000) (hz : ∀ l ∈ ls, ∀ s ∈ l, s.size ≤ maxLen) : gap_Coalesce.f ls = some ((rowsOf ls).map (rowOut ls.length), 0) := by
  have hle : ∀ l ∈ ls, l.length ≤ sumLen ls := by
    intro l hl
    obtain ⟨a, b, rfl⟩ := List.append_of_mem hl
    simp [sumLen]; omega
  rw [gap_Coalesce.f, if_pos (fun l hl => ⟨by have := hle l hl; omega, hz l hl⟩), gapF_rows h1 hs]
theorem rowOut_byte {n c : Nat} {x : RowG} (hx : x.1.length = 16) (hn : n ≤ 16) (hc : c < n) : (rowOut n x).f0.data.toList[c]? = some (markB (x.1.getD c 0)) := by
  have hc16 : c < x.1.length := by omega
  show ((x.1.map markB).take n)[c]? = _
  rw [List.getElem?_take_of_lt hc, List.getElem?_map, List.getElem?_eq_getElem hc16]
  simp [hc16]
theorem column_colT {n c : Nat} (hn : n ≤ 16) (hc : c < n) : ∀ (rs : List RowG), Cols n rs → ((rs.map (rowOut n)).filter (fun x => x.f0.data.toList[c]? == some 45)).map (·.f1) = colT c rs
  | [], _ => rfl
  | x :: rs, h => by
    have hx := h x List.mem_cons_self
    have ih := column_colT hn hc rs (fun y hy => h y (List.mem_cons_of_mem _ hy))
    rw [List.map_cons, colT_cons]
    have hb := rowOut_byte hx.1 hn hc
    rcases hx.2.1 c with h0 | h1
    · rw [List.filter_cons_of_neg (by rw [hb, h0]; decide), ih, if_neg (by rw [h0]; decide)]; rfl
    · rw [List.filter_cons_of_pos (by rw [hb, h1]; decide), List.map_cons, ih, if_pos h1]; rfl
theorem rowOut_ok {n : Nat} (hn : n ≤ 16) {rs : List RowG} (h : Cols n rs) : ∀ x ∈ rs.map (rowOut n), x.f0.size = n ∧ (∀ c ∈ x.f0.data.toList, c = 45 ∨ c = 32) ∧ 45 ∈ x.f0.data.toList := by
  intro x hx
  obtain ⟨y, hy, rfl⟩ := List.mem_map.1 hx
  obtain ⟨h1, h2, h3, c, h4, h5⟩ := h y hy
  refine ⟨by rw [rowOut_f0, bs_size, List.length_take, List.length_map]; omega, fun b hb => ?_, ?_⟩
  · have hb' : b ∈ (y.1.map markB).take n := hb
    obtain ⟨m, _, rfl⟩ := List.mem_map.1 (List.mem_of_mem_take hb')
    unfold markB; split <;> simp
  · have := rowOut_byte h1 hn h4
    rw [h5] at this
    exact List.mem_of_getElem? this
end Go.Proofs.Ytnlekganlliikaa.X
-- part XTable
namespace Go.Proofs.Ytnlekganlliikaa.X
open Go.RowKit Go.Proofs.YtnlekganlliikaaW.PrintWords Go.Proofs.YtnlekganlliikaaW.PrintLast Go.Proofs.YtnlekganlliikaaW.PrintMore
open Go.Maps
set_option linter.unusedVariables false
set_option linter.unusedSimpArgs false
/-- The marks, and what is lost, of so many parents. -/
def marksAll (result : List ByteArray) (parents : List (List ByteArray)) : List ByteArray :=
  parents.foldl (fun M p => marksF M (matchS result p)) (⟨#[32]⟩ :: List.replicate result.length ByteArray.empty)
def lostFrom (N : Nat) (result : List ByteArray) : List (List ByteArray) → Nat → (Nat → Option (List (List ByteArray))) → Nat → Option (List (List ByteArray))
  | [], _, lost => lost
  | p :: ps, col, lost => lostFrom N result ps (col + 1) (pairGo N col p (matchS result p) 0 0 0 lost)
def lostAll (result : List ByteArray) (parents : List (List ByteArray)) : Nat → Option (List (List ByteArray)) := lostFrom parents.length result parents 0 (fun _ => none)
/-- The rows up to a line. -/
def tableRows (result : List ByteArray) (parents : List (List ByteArray)) : Nat → List S37
  | 0 => []
  | k + 1 => tableRows result parents k ++ lostRows (lostAll result parents k) ++ [⟨(marksAll result parents).getD (k + 1) ByteArray.empty, result.getD k ByteArray.empty⟩]
def tableAll (result : List ByteArray) (parents : List (List ByteArray)) : List S37 := tableRows result parents result.length ++ lostRows (lostAll result parents result.length)
def tableF (result : List ByteArray) (parents : List (List ByteArray)) : List S37 × Int :=
  if wrongF mayL (result :: parents) ≠ 0 then ([], wrongF mayL (result :: parents)) else (tableAll result parents, 0)
/-- What table.Table takes here. -/
def tableOk (result : List ByteArray) (parents : List (List ByteArray)) : Bool :=
  decide (result.length ≤ 1000000 ∧ parents.length ≤ 1000 ∧ ∀ l ∈ result :: parents, l.length ≤ 1000000 ∧ ∀ s ∈ l, s.size ≤ 1000000000) &&
    (decide (wrongF mayL (result :: parents) ≠ 0) || decide (result.length + sumLen parents ≤ 2000))
theorem marksF_length {M : List ByteArray} {ms : List Int} (h : M.length = ms.length + 1) : (marksF M ms).length = M.length := by
  simp [marksF]; omega
theorem marksF_get {M : List ByteArray} {ms : List Int} (n : Nat) (h : M.length = ms.length + 1) (h0 : (M.getD 0 ByteArray.empty).size = n + 1) (hr : ∀ i, 1 ≤ i → i < M.length → (M.getD i ByteArray.empty).size = n) :
    ((marksF M ms).getD 0 ByteArray.empty).size = n + 2 ∧ ∀ i, 1 ≤ i → i < M.length → ((marksF M ms).getD i ByteArray.empty).size = n + 1 := by
  refine ⟨?_, fun i h1 h2 => ?_⟩
  · show (M.getD 0 ByteArray.empty ++ ⟨#[32]⟩).size = _
    rw [ByteArray.size_append, h0]; rfl
  · obtain ⟨j, rfl⟩ : ∃ j, i = j + 1 := ⟨i - 1, by omega⟩
    have hj : j < ms.length := by omega
    have e : (marksF M ms).getD (j + 1) ByteArray.empty = M.getD (j + 1) ByteArray.empty ++ markS ms[j] := by
      have hlen := marksF_length h
      rw [show (marksF M ms).getD (j + 1) ByteArray.empty = (marksF M ms)[j + 1]'(by omega) by simp [show j + 1 < (marksF M ms).length by omega]]
      simp only [marksF, List.getElem_cons_succ, List.getElem_zipWith, List.getElem_tail]
      rw [show M.getD (j + 1) ByteArray.empty = M[j + 1] by simp [h2]]
    rw [e, ByteArray.size_append, hr (j + 1) (by omega) h2]
    unfold markS; split <;> rfl
/-- What is lost comes from the parents. -/
def LostOk (parents : List (List ByteArray)) (lost : Nat → Option (List (List ByteArray))) : Prop :=
  ∀ line ls, lost line = some ls → ls.length = parents.length ∧ ∀ (c : Nat) (l : List ByteArray), ls[c]? = some l → l.length ≤ (parents.getD c []).length ∧ ∀ s ∈ l, s ∈ parents.getD c []
theorem LostOk.lose {parents : List (List ByteArray)} {lost : Nat → Option (List (List ByteArray))} (h : LostOk parents lost) (col to_ at_ line : Nat) : LostOk parents (loseAt parents.length col (parents.getD col []) lost to_ at_ line) := by
  unfold loseAt
  split
  · intro q ls hq
    by_cases e : q = line
    · simp only [if_pos e, Option.some.injEq] at hq
      have hb : ((lost line).getD (List.replicate parents.length [])).length = parents.length ∧ ∀ (c : Nat) (l : List ByteArray), ((lost line).getD (List.replicate parents.length []))[c]? = some l → l.length ≤ (parents.getD c []).length ∧ ∀ s ∈ l, s ∈ parents.getD c [] := by
        cases hlo : lost line with
        | none =>
          refine ⟨by simp, fun c l hl => ?_⟩
          have hl : (List.replicate parents.length ([] : List ByteArray))[c]? = some l := hl
          rw [List.getElem?_replicate] at hl
          split at hl
          · cases hl; simp
          · cases hl
        | some ls' => exact h line ls' hlo
      subst hq
      refine ⟨by rw [List.length_set]; exact hb.1, fun c l hl => ?_⟩
      rw [List.getElem?_set] at hl
      split at hl
      · split at hl
        · cases hl
          rename_i e2 _
          subst e2
          refine ⟨?_, fun s hs => List.mem_of_mem_take (List.mem_of_mem_drop hs)⟩
          rw [List.length_drop, List.length_take]; omega
        · cases hl
      · exact hb.2 c l hl
    · simp only [if_neg e] at hq
      exact h q ls hq
  · exact h
theorem LostOk.pair {parents : List (List ByteArray)} (col : Nat) : ∀ (ms : List Int) (i at_ last : Nat) (lost : Nat → Option (List (List ByteArray))), LostOk parents lost → LostOk parents (pairGo parents.length col (parents.getD col []) ms i at_ last lost)
  | [], i, at_, last, lost, h => h.lose _ _ _ _
  | m :: ms, i, at_, last, lost, h => by
    rw [pairGo]
    split
    · exact LostOk.pair col ms _ _ _ _ (h.lose _ _ _ _)
    · exact LostOk.pair col ms _ _ _ _ h
theorem lostFrom_snoc (N : Nat) (result : List ByteArray) : ∀ (ps : List (List ByteArray)) (p : List ByteArray) (col : Nat) (lost : Nat → Option (List (List ByteArray))), lostFrom N result (ps ++ [p]) col lost = pairGo N (col + ps.length) p (matchS result p) 0 0 0 (lostFrom N result ps col lost)
  | [], p, col, lost => rfl
  | x :: ps, p, col, lost => by
    rw [List.cons_append, lostFrom, lostFrom, lostFrom_snoc N result ps p (col + 1) _, List.length_cons, show col + 1 + ps.length = col + (ps.length + 1) by omega]
theorem LostOk.from_ (result : List ByteArray) (parents : List (List ByteArray)) : ∀ k, k ≤ parents.length → LostOk parents (lostFrom parents.length result (parents.take k) 0 (fun _ => none))
  | 0, _ => fun line ls h => by simp [lostFrom] at h
  | k + 1, hk => by
    have hkl : k < parents.length := by omega
    have h := LostOk.from_ result parents k (by omega)
    rw [← List.take_append_getElem hkl, lostFrom_snoc, List.length_take_of_le (by omega), Nat.zero_add]
    have := h.pair k (matchS result parents[k]) 0 0 0
    rwa [show parents.getD k [] = parents[k] by simp [hkl]] at this
theorem LostOk.all (result : List ByteArray) (parents : List (List ByteArray)) : LostOk parents (lostAll result parents) := by
  have := LostOk.from_ result parents parents.length (Nat.le_refl _)
  rwa [List.take_length] at this
theorem sumLen_le_of : ∀ (ls ps : List (List ByteArray)), ls.length = ps.length → (∀ (c : Nat) (l : List ByteArray), ls[c]? = some l → l.length ≤ (ps.getD c []).length) → sumLen ls ≤ sumLen ps
  | [], [], _, _ => Nat.le_refl _
  | [], _ :: _, h, _ => by simp at h
  | _ :: _, [], h, _ => by simp at h
  | l :: ls, p :: ps, h, hc => by
    have h0 := hc 0 l rfl
    have ih := sumLen_le_of ls ps (by simpa using h) (fun c x hx => by simpa using hc (c + 1) x (by simpa using hx))
    simp only [sumLen, List.map_cons, List.sum_cons] at ih ⊢
    have h0 : l.length ≤ p.length := by simpa using h0
    omega
/-- What is lost ahead of a line makes rows. -/
theorem lost_gap {parents : List (List ByteArray)} {lost : Nat → Option (List (List ByteArray))} (h : LostOk parents lost) (hp : parents.length ≤ 16) (hs : sumLen parents ≤ 2000) (hz : ∀ l ∈ parents, ∀ s ∈ l, s.size ≤ 1000000000) {line : Nat} {ls : List (List ByteArray)} (hl : lost line = some ls) :
    gap_Coalesce.f ls = some ((rowsOf ls).map (rowOut ls.length), 0) ∧ (lostRows (lost line)).length ≤ 2000 := by
  obtain ⟨h1, h2⟩ := h line ls hl
  have hsum : sumLen ls ≤ 2000 := Nat.le_trans (sumLen_le_of ls parents h1 (fun c l hc => (h2 c l hc).1)) hs
  refine ⟨gap_rows (by omega) hsum (fun l hl' s hs' => ?_), ?_⟩
  · obtain ⟨c, hc, rfl⟩ := List.mem_iff_getElem.1 hl'
    have hm := (h2 c _ (List.getElem?_eq_getElem hc)).2 s hs'
    have hcp : c < parents.length := by omega
    rw [show parents.getD c [] = parents[c] by simp [hcp]] at hm
    have := hz _ (List.getElem_mem hcp) s hm
    unfold maxLen; omega
  · rw [hl]
    show ((rowsOf ls).map (rowOut ls.length)).length ≤ 2000
    rw [List.length_map]
    have := rowsOf_le ls
    omega
theorem lostRows_le {parents : List (List ByteArray)} {lost : Nat → Option (List (List ByteArray))} (h : LostOk parents lost) (hp : parents.length ≤ 16) (hs : sumLen parents ≤ 2000) (hz : ∀ l ∈ parents, ∀ s ∈ l, s.size ≤ 1000000000) (line : Nat) : (lostRows (lost line)).length ≤ 2000 := by
  cases hl : lost line with
  | none => exact Nat.zero_le _
  | some ls =>
    have := (lost_gap h hp hs hz hl).2
    rwa [hl] at this
theorem sumLen_mem {ls : List (List ByteArray)} {l : List ByteArray} (h : l ∈ ls) : l.length ≤ sumLen ls := by
  obtain ⟨a, b, rfl⟩ := List.append_of_mem h
  simp only [sumLen, List.map_append, List.map_cons, List.sum_append, List.sum_cons]; omega
/-- The marks of the first k parents. -/
def marksK (result : List ByteArray) (parents : List (List ByteArray)) (k : Nat) : List ByteArray := marksAll result (parents.take k)
theorem marksK_succ (result : List ByteArray) (parents : List (List ByteArray)) {k : Nat} (h : k < parents.length) : marksK result parents (k + 1) = marksF (marksK result parents k) (matchS result (parents.getD k [])) := by
  rw [marksK, marksK, marksAll, marksAll, ← List.take_append_getElem h, List.foldl_append, show parents.getD k [] = parents[k] by simp [h]]
  rfl
theorem marksK_ok (result : List ByteArray) (parents : List (List ByteArray)) : ∀ k, k ≤ parents.length → (marksK result parents k).length = result.length + 1 ∧ ((marksK result parents k).getD 0 ByteArray.empty).size = k + 1 ∧ ∀ i, 1 ≤ i → i < result.length + 1 → ((marksK result parents k).getD i ByteArray.empty).size = k
  | 0, _ => by
    refine ⟨by simp [marksK, marksAll], rfl, fun i h1 h2 => ?_⟩
    obtain ⟨j, rfl⟩ : ∃ j, i = j + 1 := ⟨i - 1, by omega⟩
    show ((⟨#[32]⟩ :: List.replicate result.length ByteArray.empty).getD (j + 1) ByteArray.empty).size = 0
    rw [List.getD_cons_succ]
    simp [List.getD_eq_getElem?_getD, List.getElem?_replicate, show j < result.length by omega]
  | k + 1, hk => by
    obtain ⟨h1, h2, h3⟩ := marksK_ok result parents k (by omega)
    have hl : (marksK result parents k).length = (matchS result (parents.getD k [])).length + 1 := by rw [h1, matchS_length]
    rw [marksK_succ _ _ (by omega)]
    obtain ⟨g1, g2⟩ := marksF_get k hl h2 (fun i a b => h3 i a (by omega))
    exact ⟨by rw [marksF_length hl, h1], g1, fun i a b => g2 i a (by omega)⟩
def lostK (result : List ByteArray) (parents : List (List ByteArray)) (k : Nat) : Nat → Option (List (List ByteArray)) := lostFrom parents.length result (parents.take k) 0 (fun _ => none)
theorem lostK_succ (result : List ByteArray) (parents : List (List ByteArray)) {k : Nat} (h : k < parents.length) : lostK result parents (k + 1) = pairGo parents.length k (parents.getD k []) (matchS result (parents.getD k [])) 0 0 0 (lostK result parents k) := by
  rw [lostK, lostK, ← List.take_append_getElem h, lostFrom_snoc, List.length_take_of_le (by omega), Nat.zero_add, show parents.getD k [] = parents[k] by simp [h]]
theorem marks_small {M : List ByteArray} {n k : Nat} (h1 : M.length = n + 1) (h2 : (M.getD 0 ByteArray.empty).size = k + 1) (h3 : ∀ i, 1 ≤ i → i < n + 1 → (M.getD i ByteArray.empty).size = k) : ∀ s ∈ M, s.size ≤ k + 1 := by
  intro s hs
  obtain ⟨i, hi, rfl⟩ := List.mem_iff_getElem.1 hs
  have e : M.getD i ByteArray.empty = M[i] := by simp [hi]
  cases i with
  | zero => rw [← e, h2]; exact Nat.le_refl _
  | succ i => rw [← e, h3 (i + 1) (by omega) (by omega)]; omega
end Go.Proofs.Ytnlekganlliikaa.X
-- part XTable2
namespace Go.Proofs.Ytnlekganlliikaa.X
open Go.RowKit Go.Proofs.YtnlekganlliikaaW.PrintWords Go.Proofs.YtnlekganlliikaaW.PrintLast Go.Proofs.YtnlekganlliikaaW.PrintMore
open Go.Maps
set_option linter.unusedVariables false
set_option linter.unusedSimpArgs false
def table_Table.f (l0 : List ByteArray) (l1 : List (List ByteArray)) : Option (List S37 × Int) := if tableOk l0 l1 = true then some (tableF l0 l1) else none
/-- All blocks of cells but those of lists and texts stay. -/
def FKeeps (W W' : World) : Prop := ∀ Bb, MKeeps Bb W W'
theorem FKeeps.of_new {W W' : World} (h : MKeeps W'.heap.size W W') : FKeeps W W' := fun Bb => ⟨h.1, fun k c q fr _ hk h1 h2 => h.2 k c q fr (by have := (Array.getElem?_eq_some_iff.1 hk).1; have := h.1; omega) hk h1 h2⟩
theorem FKeeps.trans {W W1 W2 : World} (h : FKeeps W W1) (k : FKeeps W1 W2) : FKeeps W W2 := fun Bb => (h Bb).trans (k Bb)
theorem FKeeps.below {W W1 : World} (h : Below W.heap.size W W1) : FKeeps W W1 := fun Bb => MKeeps.below h
theorem S_fkeeps {W W' : World} {B : Nat} {v : Value} {rows : List (List Int)} (h : Kd.S KI 49 W B (fun _ => True) v rows) (hk : FKeeps W W') : Kd.S KI 49 W' B (fun _ => True) v rows := by
  have h2 := S_types2 h
  refine Kd.S_mono (Kd.S_step h2 (fun k hk' hlt => ?_)) (fun _ _ => trivial)
  obtain ⟨q, hq, _, cells, hc⟩ := hk'
  exact ((hk (W.heap.size)).2 k cells q (0, 0) (by omega) hc (by rcases hq with rfl | rfl <;> decide) (by rcases hq with rfl | rfl <;> decide)).trans hc.symm
theorem R_strs_made {W : World} {g base n : Nat} (h : W.heap[g]? = some (.cells (Array.replicate n (.string ⟨#[]⟩)) 9 (0, 0))) (hb : base ≤ g) (hn : n ≤ 1000000000) : Kd.R Kd.string 9 W base (fun _ => True) (.slice (some ⟨g, 0, none⟩) n n) (List.replicate n ByteArray.empty) := by
  refine ⟨fun _ _ => trivial, List.replicate n (.string ⟨#[]⟩), ⟨by simp [Kd.string, Kd.scalar], .inr ⟨g, n, _, by simp, hb, h, by simp, by unfold maxLen; omega, by simp [Kd.string, Kd.scalar], by simp [Kd.string, Kd.scalar]⟩⟩, by simp [Kd.string, Kd.scalar], fun j p hj => ?_⟩
  obtain ⟨hl, rfl⟩ := List.getElem?_eq_some_iff.1 hj
  rw [List.length_replicate] at hl
  show ((List.replicate n (Value.string ⟨#[]⟩)).drop (j * 1)).take 1 = [Value.string (List.replicate n ByteArray.empty)[j]]
  rw [Nat.mul_one, List.drop_eq_getElem_cons (by simpa using hl), List.getElem_replicate, List.getElem_replicate]
  rfl
set_option maxRecDepth 100000 in
set_option maxHeartbeats 8000000 in
theorem table_Table.calls (A0 : Option Addr) (c0 : Nat) (l0 : List ByteArray) (A1 : Option Addr) (c1 : Nat) (l1 : List (List ByteArray)) (r1 : List S37) (r2 : Int) (w : World) (hr0 : Kd.C Kd.string w A0 l0.length l0) (hc0 : l0.length ≤ c0) (hr1 : Kd.C (Kd.slice 9 Kd.string) w A1 l1.length l1) (hc1 : l1.length ≤ c1) (h : table_Table.f l0 l1 = some (r1, r2)) :
    Calls Try.prog 25 #[.slice A0 l0.length c0, .slice A1 l1.length c1] w fun e w' => ∃ v0_ : Value, e = .returned (.tuple #[v0_, .int .i64 r2]) ∧ Kd.R k37 37 w' w.heap.size (fun _ => True) v0_ r1 ∧ Below w.heap.size w w' := by
  have HR0 := Aside0.mk hr0
  have HC0 := Aside0.mk hc0
  have HR1 := Aside0.mk hr1
  have HC1 := Aside0.mk hc1
  clear hr0 hc0 hr1 hc1
  unfold table_Table.f at h
  split at h
  · rename_i hf
    have h := Option.some.inj h
    rw [tableOk, Bool.and_eq_true, Bool.or_eq_true] at hf
    obtain ⟨hf1, hf2⟩ := hf
    have hf1 := of_decide_eq_true hf1
    have hm : ∀ l ∈ l0 :: l1, Gives (fun k => lines_May.f k l) (mayL l) := fun l hl => may_gives l (by have := (hf1.2.2 l hl).1; omega) (fun s hs => by have := (hf1.2.2 l hl).2 s hs; omega)
    have hN : l1.length ≤ 1000 := hf1.2.1
    have hn : l0.length ≤ 1000000 := hf1.1
    have HM := Aside0.mk hm
    have HF1 := Aside0.mk hf1.2.2
    have HF2 : Aside0 (wrongF mayL (l0 :: l1) = 0 → l0.length + sumLen l1 ≤ 2000) := ⟨fun h0 => by
      rcases hf2 with h2 | h2
      · exact absurd h0 (of_decide_eq_true h2)
      · exact of_decide_eq_true h2⟩
    clear hm hf1 hf2
    have HT := Aside0.mk h
    clear h
    go_enter Try.func25, Try.ntmps25
    go_wp2_with fail
    obtain ⟨w1, hw1⟩ : ∃ w1, (w.alloc (.cells #[.slice A0 l0.length c0] 34)).alloc (.cells #[.slice (some ⟨w.heap.size, 0, none⟩) 1 1, .slice A1 l1.length c1] 22) = w1 := ⟨_, rfl⟩
    have hb1 : Below w.heap.size w w1 := by rw [← hw1]; exact ((Below.refl _ w).alloc (Nat.le_refl _) _).alloc (by simp) _
    have q0 : w1.heap[w.heap.size]? = some (.cells #[.slice A0 l0.length c0] 34 (0, 0)) := by rw [← hw1, heap_alloc_old _ _ (by simp)]; exact blk_new _ _
    have q1 : w1.heap[w.heap.size + 1]? = some (.cells #[.slice (some ⟨w.heap.size, 0, none⟩) 1 1, .slice A1 l1.length c1] 22 (0, 0)) := by rw [← hw1]; have := blk_new (w.alloc (.cells #[.slice A0 l0.length c0] 34)) (.cells #[.slice (some ⟨w.heap.size, 0, none⟩) 1 1, .slice A1 l1.length c1] 22); simpa using this
    rw [hw1]
    have k0 : KS.K w1 l0 [.slice A0 l0.length c0] := ⟨A0, c0, rfl, HC0.out, Kd.C_below HR0.out hb1⟩
    have kk0 : (Kd.slice 34 KS).K w1 [l0] [.slice (some ⟨w.heap.size, 0, none⟩) 1 1] := ⟨_, 1, rfl, Nat.le_refl _, C_blk (d := KS) (xs := [l0]) (inner := [.slice A0 l0.length c0]) q0 (Reps.one k0 (Reps.none _ _)) (by simp)⟩
    have kk1 : (Kd.slice 34 KS).K w1 l1 [.slice A1 l1.length c1] := ⟨A1, c1, rfl, HC1.out, Kd.C_below HR1.out hb1⟩
    have hC := C_blk (d := Kd.slice 34 KS) (xs := [[l0], l1]) (inner := [.slice (some ⟨w.heap.size, 0, none⟩) 1 1, .slice A1 l1.length c1]) q1 (Reps.one kk0 (Reps.one kk1 (Reps.none _ _))) (by simp)
    refine (concat_lists _ 2 [[l0], l1] w1 hC (by simp) (by simp) (by simp; omega)).mono ?_
    rintro e w2 ⟨v2, rfl, HR2, HB2⟩
    obtain ⟨A2, c2, rfl, hc2, hC2⟩ := R_held_reads HR2.out HB2.out
    have hfl : ([[l0], l1] : List (List (List ByteArray))).flatten = l0 :: l1 := by simp
    obtain ⟨fs, hfs⟩ : ∃ fs, l0 :: l1 = fs := ⟨_, rfl⟩
    rw [hfl, hfs] at hc2 hC2 ⊢
    have HFS := Aside0.mk hfs
    have hfl1 : fs.length = l1.length + 1 := by rw [← hfs]; rfl
    have HFL := Aside0.mk hfl1
    rw [hfs] at HM HF1 HF2
    have HB2' : Aside0 (Below w.heap.size w w2) := ⟨far_ hb1 HB2.out⟩
    have HC2 := Aside0.mk hC2
    have Hc2 := Aside0.mk hc2
    clear hw1 hb1 q0 q1 k0 kk0 kk1 hC HR2 HB2 hfl hc2 hC2 hfs hfl1
    go_wp2_with fail
    refine (wrong_calls mayL A2 c2 fs w2 HM.out (fun l hl => by have := (HF1.out l hl).1; omega) HC2.out Hc2.out (by rw [HFL.out]; omega)).mono ?_
    rintro e w3' ⟨rfl, n3, rfl⟩
    obtain ⟨w3, hw3⟩ : ∃ w3, w2.drewN n3 = w3 := ⟨_, rfl⟩
    have HB3 : Aside0 (Below w.heap.size w w3) := ⟨by rw [← hw3]; exact pw_below_drewN HB2'.out n3⟩
    have HC3 : Aside0 (KS.C w3 A2 fs.length fs) := ⟨by rw [← hw3]; exact Kd.C_drewN HC2.out n3⟩
    rw [hw3]
    have hT := HT.out
    rw [tableF, HFS.out] at hT
    obtain ⟨cde, hcde⟩ : ∃ c, wrongF mayL fs = c := ⟨_, rfl⟩
    rw [hcde] at HF2 hT ⊢
    have HCDE := Aside0.mk hcde
    clear hw3 hcde
    by_cases hc : cde = 0
    · subst hc
      rw [if_neg (fun h => h rfl)] at hT
      obtain ⟨e1, e2⟩ := Prod.mk.inj hT
      have HR1e := Aside0.mk e1
      subst e2
      clear hT e1 HT
      have hsum := HF2.out rfl
      have hn16 : l1.length ≤ 16 ∧ 1 ≤ l1.length := by
        have hw := HCDE.out
        unfold wrongF at hw
        by_cases hh : fs.length < 2 ∨ 17 < fs.length
        · rw [if_pos hh] at hw; omega
        · have := HFL.out; omega
      have htot : total fs ≤ 1000000 := by
        rw [← HFS.out]
        simp only [total, sumLen, List.map_cons, List.sum_cons] at hsum ⊢
        omega
      have HIDS : Aside0 (intern_All.f fs = some (idsAll fs)) := ⟨by
        rw [intern_All.f, if_pos ⟨by rw [HFL.out]; omega, htot, fun l hl s hs => by have := (HF1.out l hl).2 s hs; unfold maxLen; omega⟩]⟩
      have HIM : Aside0 (idsAll fs = fs.map (fun l => l.map (num (tabOf [] fs)))) := ⟨idsAll_map fs⟩
      go_wp2_with fail
      refine (intern_All.calls A2 c2 fs (idsAll fs) w3 HC3.out Hc2.out HIDS.out).mono ?_
      rintro e w4 ⟨v4, rfl, hs4, hb4⟩
      rw [HIM.out] at hs4
      obtain ⟨ids, hids⟩ : ∃ ids, fs.map (fun l => l.map (num (tabOf [] fs))) = ids := ⟨_, rfl⟩
      rw [hids] at hs4
      have hidl : ids.length = l1.length + 1 := by rw [← hids, List.length_map, HFL.out]
      obtain ⟨gi, ci, rfl, hgi, hgis, icells, hic⟩ := Kd.S_form hs4 (by omega)
      have HS4 := Aside0.mk hs4
      have HIDL := Aside0.mk hidl
      have HIDE := Aside0.mk hids
      have hci : l1.length + 1 ≤ ci := by have := (Kd.S_reads' hs4).2.1; omega
      have HB4 : Aside0 (Below w.heap.size w w4) := ⟨far_ HB3.out hb4⟩
      rw [hidl]
      clear hs4 hidl hids hb4 hic
      have hmk : ∀ W : World, (Instr.makeSlice 34 (.int .i64 ((l0.length : Int) + 1)) (.int .i64 ((l0.length : Int) + 1))).run Try.prog W = .ok (.slice (some ⟨W.heap.size, 0, none⟩) (l0.length + 1) (l0.length + 1)) (W.alloc (.cells (Array.replicate (l0.length + 1) (.string ⟨#[]⟩)) 9)) := by
        obtain ⟨i0, hi0, hz0⟩ := Option.map_eq_some_iff.1 info9
        simp only [Prod.mk.injEq] at hz0
        obtain ⟨hz, hsz, hby⟩ := hz0
        intro W
        have h := run_make (P := Try.prog) W 34 9 i0 (.string ⟨#[]⟩) Try.underlying34 hi0 hz .i64 .i64 ((l0.length : Int) + 1) ((l0.length : Int) + 1) (by omega) (by omega) (by rw [hby]; omega) (by omega)
        rw [h, hsz]
        have e : ((l0.length : Int) + 1).toNat = l0.length + 1 := by omega
        rw [e, show (Value.string ⟨#[]⟩).cells = #[Value.string ⟨#[]⟩] from rfl, madeCells_one, List.toArray_replicate]
      have hmm := @run_makeMap Try.prog
      go_upto_region 7 with (fail)
      obtain ⟨w6, hw6⟩ : ∃ w6, ((w4.alloc (.cells (Array.replicate (l0.length + 1) (.string ⟨#[]⟩)) 9)).alloc (.map #[] 0)).alloc (.cells #[.slice A1 l1.length c1, .slice (some ⟨w4.heap.size, 0, none⟩) (l0.length + 1) (l0.length + 1), .map (some (w4.heap.size + 1)), .slice none 0 0, .int .i64 0] 78) = w6 := ⟨_, rfl⟩
      have hb6 : Below w4.heap.size w4 w6 := by rw [← hw6]; exact (((Below.refl _ w4).alloc (Nat.le_refl _) _).alloc (by simp) _).alloc (by simp; omega) _
      have hI6 : MakerIn w w6 w.heap.size (w4.heap.size + 1 + 1) l1.length A1 c1 0 (List.replicate (l0.length + 1) ByteArray.empty) (fun _ => none) [] 0 := by
        refine ⟨.slice (some ⟨w4.heap.size, 0, none⟩) (l0.length + 1) (l0.length + 1), w4.heap.size + 1, .slice none 0 0, ?_, ?_, R_strs_made ?_ HB4.out.size (by omega), Kd.R_nil _ _ _ _ _, ?_⟩
        · rw [← hw6]
          have := blk_new ((w4.alloc (.cells (Array.replicate (l0.length + 1) (.string ⟨#[]⟩)) 9)).alloc (.map #[] 0)) (.cells #[.slice A1 l1.length c1, .slice (some ⟨w4.heap.size, 0, none⟩) (l0.length + 1) (l0.length + 1), .map (some (w4.heap.size + 1)), .slice none 0 0, .int .i64 0] 78)
          simpa using this
        · have := HB4.out.size; omega
        · rw [← hw6, heap_alloc_old _ _ (by simp; omega), heap_alloc_old _ _ (by simp)]; exact blk_new _ _
        · have hl := LostIn.made (B := w.heap.size) w (w4.alloc (.cells (Array.replicate (l0.length + 1) (.string ⟨#[]⟩)) 9)) l1.length (by have := HB4.out.size; simp; omega)
          have hs : (w4.alloc (.cells (Array.replicate (l0.length + 1) (.string ⟨#[]⟩)) 9)).heap.size = w4.heap.size + 1 := by simp
          rw [hs] at hl
          rw [← hw6]
          exact hl.below ((Below.refl _ _).alloc (Nat.le_refl _) _)
      have hS6 := Kd.S_below HS4.out hb6
      have HB6 : Aside0 (Below w.heap.size w w6) := ⟨far_ HB4.out hb6⟩
      rw [hw6]
      obtain ⟨g, hg⟩ : ∃ g, w4.heap.size + 1 + 1 = g := ⟨_, rfl⟩
      rw [hg] at hI6 ⊢
      have HI6 := Aside0.mk hI6
      have HS6 := Aside0.mk hS6
      obtain ⟨gv, cv, gm, vo, p1, pB, ⟨pcs, p2⟩, p3, p4⟩ := hI6.marks (by simp)
      rw [List.length_replicate] at p1
      have cg1 : w6.cell? ⟨g, 1, none⟩ = some (.slice (some ⟨gv, 0, none⟩) (l0.length + 1) cv) := cell_blk p1 rfl
      obtain ⟨cv0, fv0⟩ := p3 0 (by simp)
      have hI7 := p4 0 ⟨#[32]⟩ (by simp)
      have hS7 : Kd.S KI 49 (w6.setCell ⟨gv, 0, none⟩ (.string ⟨#[32]⟩)) w3.heap.size (fun _ => True) (.slice (some ⟨gi, 0, none⟩) ids.length ci) ids := S_fkeeps (B := w3.heap.size) HS6.out (fun Bb => MKeeps.set p2)
      clear hw6 hb6 hI6 hS6 hg p1 p3 p4 HS4 htot
      have hq1 : ¬ ci = 1 := by omega
      have hq2 : 1 ≤ l1.length + 1 := by omega
      go_upto_block 0 with (fail)
      obtain ⟨w7, hw7⟩ : ∃ w7, w6.setCell ⟨gv, 0, none⟩ (.string ⟨#[32]⟩) = w7 := ⟨_, rfl⟩
      have hb7 : Below w.heap.size w w7 := by rw [← hw7]; exact HB6.out.setCell (p := ⟨gv, 0, none⟩) pB _
      have hm0 : (List.replicate (l0.length + 1) ByteArray.empty).set 0 ⟨#[32]⟩ = marksK l0 l1 0 := rfl
      rw [hm0] at hI7
      rw [hw7] at hI7 hS7 ⊢
      have HI7 := Aside0.mk hI7
      have HS7 := Aside0.mk hS7
      have HB7 := Aside0.mk hb7
      clear hI7 hS7 hb7 hw7 hm0 cg1 cv0 fv0 p2 HI6 HS6 hmk hmm hq1 hq2
      have HLE : Aside0 (l0.length ≤ 2000 ∧ ∀ k, k < l1.length → (l1.getD k []).length ≤ 2000) := ⟨by omega, fun k hk => by
        have : (l1.getD k []).length ≤ sumLen l1 := by
          rw [show l1.getD k [] = l1[k] by simp [hk]]
          exact sumLen_mem (List.getElem_mem hk)
        omega⟩
      have HSUM := Aside0.mk hsum
      have H16 := Aside0.mk hn16
      have HIDG : Aside0 (∀ k, k < fs.length → ids.getD k [] = (fs.getD k []).map (num (tabOf [] fs))) := ⟨fun k hk => by
        rw [← HIDE.out]
        simp [List.getD_eq_getElem?_getD, hk]⟩
      have HFG : Aside0 (fs.getD 0 [] = l0 ∧ ∀ k, fs.getD (k + 1) [] = l1.getD k []) := ⟨by rw [← HFS.out]; exact ⟨rfl, fun k => by simp⟩⟩
      clear hsum hn16
      go_wp2_with fail
      go_loopw [11, 42] (fun _ iv wr => ∃ (k : Nat), iv = .int .i64 k ∧ k ≤ l1.length ∧ Aside0 (MakerIn w wr w.heap.size g l1.length A1 c1 (k * 2002) (marksK l0 l1 k) (lostK l0 l1 k) [] 0) ∧ Aside0 (FKeeps w7 wr) ∧ Aside0 (Below w.heap.size w wr)) (fun _ iv _ => l1.length - (intOf iv).toNat)
      case atStart => exact ⟨0, rfl, Nat.zero_le _, by simpa [lostK, lostFrom] using HI7, ⟨fun Bb => MKeeps.refl _ _⟩, HB7⟩
      case round =>
        obtain ⟨k, rfl, hk, HI, HK, HBr⟩ := hrel
        have HSr : Aside0 (Kd.S KI 49 wr w3.heap.size (fun _ => True) (.slice (some ⟨gi, 0, none⟩) ids.length ci) ids) := ⟨S_fkeeps HS7.out HK.out⟩
        have hid0 : 0 < ids.length := by rw [HIDL.out]; omega
        have hCr := (Kd.S_reads' HSr.out).2.2
        by_cases hlt : k < l1.length
        · obtain ⟨ad, E0, d0, ead, x0, le0, kc0⟩ := at_slice hCr 0 hid0
          cases ead
          obtain ⟨ad, E1, d1, ead, x1, le1, kc1⟩ := at_slice hCr (k + 1) (by rw [HIDL.out]; omega)
          cases ead
          rw [add0_] at x0 x1
          have eg0 := HIDG.out 0 (by rw [HFL.out]; omega)
          have eg1 := HIDG.out (k + 1) (by rw [HFL.out]; omega)
          rw [HFG.out.1] at eg0
          rw [HFG.out.2] at eg1
          have hmat : matchOf (ids.getD 0 []) (ids.getD (k + 1) []) = matchS l0 (l1.getD k []) := by
            rw [eg0, eg1]
            exact matchS_num fun x hx => tabAll (ls := fs) (by rw [← HFS.out]; simp) hx
          have hla : (ids.getD 0 []).length = l0.length := by rw [eg0, List.length_map]
          have hlb : (ids.getD (k + 1) []).length = (l1.getD k []).length := by rw [eg1, List.length_map]
          obtain ⟨a, ha⟩ : ∃ a, ids.getD 0 [] = a := ⟨_, rfl⟩
          obtain ⟨b, hb⟩ : ∃ b, ids.getD (k + 1) [] = b := ⟨_, rfl⟩
          rw [ha] at x0 le0 kc0 hmat hla
          rw [hb] at x1 le1 kc1 hmat hlb
          have HMAT := Aside0.mk hmat
          have HLA := Aside0.mk hla
          have HLB := Aside0.mk hlb
          have KC0 := Aside0.mk kc0
          have KC1 := Aside0.mk kc1
          have LE0 := Aside0.mk le0
          have LE1 := Aside0.mk le1
          have x1' : wr.cell? ⟨gi, 1 + k, none⟩ = some (.slice E1 b.length d1) := by rw [Nat.add_comm]; exact x1
          clear eg0 eg1 ha hb hmat hla hlb kc0 kc1 le0 le1 hCr hid0
          go_wp2_with fail
          obtain ⟨hm1, hm2, hm3⟩ := marksK_ok l0 l1 k (by omega)
          refine (pair_calls w wr w.heap.size g l1.length c1 (k * 2002) k A1 l1 (marksK l0 l1 k) (lostK l0 l1 k) [] 0 E0 d0 a E1 d1 b HR1.out rfl HBr.out HI.out hlt (by rw [HLA.out]; exact hm1) hm2 KC0.out LE0.out KC1.out LE1.out HLB.out (by rw [HLA.out]; exact HLE.out.1) (by rw [HLB.out]; exact HLE.out.2 k hlt) (fun s hs => by have := marks_small hm1 hm2 hm3 s hs; omega) hN (by omega)).mono ?_
          rintro e' w' ⟨rfl, HI', HB', HK'⟩
          rw [HMAT.out, ← marksK_succ _ _ hlt, ← lostK_succ _ _ hlt] at HI'
          go_wp2
          go_roundw
          case measure => simp [intOf]; omega
          case rel => exact ⟨k + 1, by go_num, by omega, ⟨HI'.out.mono (by rw [HLA.out]; have := HLE.out.1; omega)⟩, ⟨HK.out.trans (FKeeps.of_new HK'.out)⟩, ⟨HBr.out.trans HB'.out⟩⟩
        · have hk' : k = l1.length := by omega
          subst hk'
          obtain ⟨mks, hmks⟩ : ∃ M, marksK l0 l1 l1.length = M := ⟨_, rfl⟩
          obtain ⟨lst, hlst⟩ : ∃ L, lostK l0 l1 l1.length = L := ⟨_, rfl⟩
          have hmall : marksAll l0 l1 = mks := by rw [← hmks, marksK, List.take_length]
          have hlall : lostAll l0 l1 = lst := by rw [← hlst, lostK, List.take_length]; rfl
          have hmok := marksK_ok l0 l1 l1.length (Nat.le_refl _)
          have hlok := LostOk.all l0 l1
          rw [hmks] at HI hmok
          rw [hlst] at HI
          rw [hlall] at hlok
          have HMOK := Aside0.mk hmok
          have HLOK := Aside0.mk hlok
          have HTR : Aside0 (∀ k, tableRows l0 l1 (k + 1) = tableRows l0 l1 k ++ lostRows (lst k) ++ [⟨mks.getD (k + 1) ByteArray.empty, l0.getD k ByteArray.empty⟩]) := ⟨fun k => by rw [tableRows, hmall, hlall]⟩
          have HZ1 : Aside0 (∀ l ∈ l1, ∀ s ∈ l, s.size ≤ 1000000000) := ⟨fun l hl s hs => (HF1.out l (by rw [← HFS.out]; simp [hl])).2 s hs⟩
          have HLR : Aside0 (∀ k, (lostRows (lst k)).length ≤ 2000) := ⟨fun k => lostRows_le HLOK.out H16.out.1 (by have := HSUM.out; omega) HZ1.out k⟩
          have HTL : Aside0 (∀ k, (tableRows l0 l1 k).length ≤ k * 2001) := ⟨fun k => by
            induction k with
            | zero => exact Nat.zero_le _
            | succ k ih =>
              rw [HTR.out, List.length_append, List.length_append, List.length_singleton]
              have := HLR.out k
              omega⟩
          have HEND : Aside0 (r1 = tableRows l0 l1 l0.length ++ lostRows (lst l0.length)) := ⟨by rw [← HR1e.out, tableAll, hlall]⟩
          have hTR0 : tableRows l0 l1 0 = [] := rfl
          rw [← hTR0] at HI
          have HPUT : Aside0 (∀ (W : World) (k cnt : Nat), k ≤ l0.length → Below w.heap.size w W → MakerIn w W w.heap.size g l1.length A1 c1 cnt mks lst (tableRows l0 l1 k) 0 → Calls Try.prog 46 #[.pointer (some ⟨g, 0, none⟩), .int .i64 (k : Int)] W fun e' w' => e' = .returned (.tuple #[]) ∧ Aside0 (MakerIn w w' w.heap.size g l1.length A1 c1 cnt mks lst (tableRows l0 l1 k ++ lostRows (lst k)) 0) ∧ Aside0 (Below w.heap.size W w')) := ⟨fun W k cnt hk hb hI =>
            put_calls w W w.heap.size g l1.length c1 cnt k A1 mks lst (tableRows l0 l1 k) rfl hb hI (by omega) hN (fun ls hl => (lost_gap HLOK.out H16.out.1 (by have := HSUM.out; omega) HZ1.out hl).1) (by have := HTL.out k; have := HLR.out k; have := HLE.out.1; have : k * 2001 ≤ 2000 * 2001 := Nat.mul_le_mul_right _ (by omega); omega)⟩
          clear hmks hlst hmall hlall hmok hlok hTR0 hCr hid0
          go_wp2_with fail
          go_loopw [12, 13, 55] (fun _ _ iv wr2 => ∃ (k : Nat), iv = .int .i64 k ∧ k ≤ l0.length ∧ Aside0 (MakerIn w wr2 w.heap.size g l1.length A1 c1 (l1.length * 2002) mks lst (tableRows l0 l1 k) 0) ∧ Aside0 (Below w.heap.size w wr2)) (fun _ _ iv _ => l0.length - (intOf iv).toNat)
          case atStart => exact ⟨0, rfl, Nat.zero_le _, HI, HBr⟩
          case round =>
            obtain ⟨k, rfl, hk, HI2, HB2⟩ := hrel
            by_cases hlt2 : k < l0.length
            · obtain ⟨ad0, rfl, xs⟩ := at_str HR0.out k hlt2
              replace xs := (HB2.out.cell (World.block_lt_of_cell? w _ xs)).trans xs
              obtain ⟨s, hs⟩ : ∃ s, l0.getD k ByteArray.empty = s := ⟨_, rfl⟩
              have HSE := Aside0.mk hs
              rw [hs] at xs
              clear hs
              go_wp2_with fail
              refine (HPUT.out _ k _ (by omega) HB2.out HI2.out).mono ?_
              rintro e' wp ⟨rfl, HIp, HBp⟩
              obtain ⟨vm3, gm3, vo3, z1, z2, z3, z4, z5⟩ := HIp.out
              obtain ⟨Ao, co, rfl⟩ := Kd.R_slice z4
              obtain ⟨gv2, cv2, rfl, pB2, _, pcs2, p2⟩ := Kd.R_form z3 (by rw [HMOK.out.1]; omega)
              have p3 := (Kd.R_celln ByteArray.empty z3 ((k + 1 : Nat) : Int) (by omega) (by rw [HMOK.out.1]; omega)).1
              rw [show (((k + 1 : Nat) : Int)).toNat = k + 1 by omega] at p3
              have p3 : wp.cell? ⟨gv2, k + 1, none⟩ = some (.string (mks.getD (k + 1) ByteArray.empty)) := p3
              have P2 := Aside0.mk p2
              obtain ⟨mk, hmk2⟩ : ∃ mk, mks.getD (k + 1) ByteArray.empty = mk := ⟨_, rfl⟩
              have hTRk := HTR.out k
              have hlen := HTL.out k
              have hlen2 := HLR.out k
              have hk2 : k * 2001 ≤ 2000 * 2001 := Nat.mul_le_mul_right _ (by have := HLE.out.1; omega)
              rw [hmk2, HSE.out] at hTRk
              obtain ⟨OUT, hOUT⟩ : ∃ O, tableRows l0 l1 k ++ lostRows (lst k) = O := ⟨_, rfl⟩
              have hOl : OUT.length ≤ 10000000 := by rw [← hOUT, List.length_append]; omega
              rw [hOUT] at hTRk z4
              rw [hOUT] at z1
              have HTRK := Aside0.mk hTRk
              obtain ⟨no, hno⟩ : ∃ n, OUT.length = n := ⟨_, rfl⟩
              rw [hno] at z1 z4 hOl
              have HNO := Aside0.mk hno
              have HOL := Aside0.mk hOl
              have hmo := HMOK.out.1
              have y3 : wp.cell? ⟨g, 3, none⟩ = some (.slice Ao no co) := cell_blk z1 rfl
              rw [hmo] at z1 z3
              have y1 : wp.cell? ⟨g, 1, none⟩ = some (.slice (some ⟨gv2, 0, none⟩) (l0.length + 1) cv2) := cell_blk z1 rfl
              have y2 : wp.cell? ⟨gv2, k + 1, none⟩ = some (.string mk) := by rw [← hmk2]; exact p3
              have Z1 := Aside0.mk z1
              have Z2 := Aside0.mk z2
              have Z3 := Aside0.mk z3
              have Z4 := Aside0.mk z4
              have Z5 := Aside0.mk z5
              have HBw : Aside0 (Below w.heap.size w wp) := ⟨HB2.out.trans HBp.out⟩
              have hki : (k : Int) + 1 < (l0.length : Int) + 1 := by omega
              have hk0 : (0 : Int) ≤ (k : Int) + 1 := by omega
              have e1 : wrap64 ((k : Int) + 1) = (k : Int) + 1 := gw (by omega) (by omega)
              clear p2 p3 z1 z2 z3 z4 z5 hmk2 hTRk hlen hlen2 hk2 hOUT hno hOl hmo HIp
              go_wp2
              refine start_ (n := 20) (S := fun w' => w'.cell? ⟨g, 3, none⟩ = some (.slice Ao no co) ∧ w'.cell? ⟨g, 1, none⟩ = some (.slice (some ⟨gv2, 0, none⟩) (l0.length + 1) cv2) ∧ w'.cell? ⟨gv2, k + 1, none⟩ = some (.string mk)) (ds := [19]) #[false, false, false, false, false, false, false, false, false, false, false, false, false, false, false, false, false, false, false, false] (by kernel_rfl) rfl rfl ⟨y3, y1, y2⟩ (fun hHeld => ?_)
              refine pure_ (i := 0) (N := some 63) (v := ?_) (a' := ?_) #[true, false, false, false, false, false, false, false, false, false, false, false, false, false, false, false, false, false, false, false] rfl rfl (by kernel_rfl) (fun _ _ _ h => h) (Or.inl ⟨by rfl, ?_⟩) ?_ ?_
              rotate_left
              · intro w'
                go_simp
                with_reducible rfl
              rotate_left
              · simp only [Act.put, List.setIfInBounds_toArray, List.set_cons_zero, List.set_cons_succ, i64_w, i32_w]
                rfl
              refine pure_ (i := 1) (N := some 64) (v := ?_) (a' := ?_) #[true, true, false, false, false, false, false, false, false, false, false, false, false, false, false, false, false, false, false, false] rfl rfl (by kernel_rfl) (fun _ _ _ h => h) (Or.inl ⟨by rfl, ?_⟩) ?_ ?_
              rotate_left
              · intro w'
                go_simp
                with_reducible rfl
              rotate_left
              · simp only [Act.put, List.setIfInBounds_toArray, List.set_cons_zero, List.set_cons_succ, i64_w, i32_w]
                rfl
              refine pure_ (i := 2) (N := some 65) (v := ?_) (a' := ?_) #[true, true, true, false, false, false, false, false, false, false, false, false, false, false, false, false, false, false, false, false] rfl rfl (by kernel_rfl) (fun _ _ _ h => h) (Or.inl ⟨by rfl, ?_⟩) ?_ ?_
              rotate_left
              · intro w'
                go_simp
                with_reducible rfl
              rotate_left
              · simp only [Act.put, List.setIfInBounds_toArray, List.set_cons_zero, List.set_cons_succ, i64_w, i32_w]
                rfl
              refine pure_ (i := 3) (N := some 66) (v := ?_) (a' := ?_) #[true, true, true, true, false, false, false, false, false, false, false, false, false, false, false, false, false, false, false, false] rfl rfl (by kernel_rfl) (fun _ _ _ h => h) (Or.inl ⟨by rfl, ?_⟩) ?_ ?_
              rotate_left
              · intro w'
                go_simp
                with_reducible rfl
              rotate_left
              · simp only [Act.put, List.setIfInBounds_toArray, List.set_cons_zero, List.set_cons_succ, i64_w, i32_w]
                rfl
              refine pure_ (i := 5) (N := some 68) (v := ?_) (a' := ?_) #[true, true, true, true, false, true, false, false, false, false, false, false, false, false, false, false, false, false, false, false] rfl rfl (by kernel_rfl) (fun _ _ _ h => h) (Or.inl ⟨by rfl, ?_⟩) ?_ ?_
              rotate_left
              · intro w'
                go_simp
                with_reducible rfl
              rotate_left
              · simp only [Act.put, List.setIfInBounds_toArray, List.set_cons_zero, List.set_cons_succ, i64_w, i32_w]
                rfl
              refine pure_ (i := 6) (N := some 69) (v := ?_) (a' := ?_) #[true, true, true, true, false, true, true, false, false, false, false, false, false, false, false, false, false, false, false, false] rfl rfl (by kernel_rfl) (fun _ _ _ h => h) (Or.inl ⟨by rfl, ?_⟩) ?_ ?_
              rotate_left
              · intro w'
                go_simp
                with_reducible rfl
              rotate_left
              · simp only [Act.put, List.setIfInBounds_toArray, List.set_cons_zero, List.set_cons_succ, i64_w, i32_w]
                rfl
              refine pure_ (i := 7) (N := some 70) (v := ?_) (a' := ?_) #[true, true, true, true, false, true, true, true, false, false, false, false, false, false, false, false, false, false, false, false] rfl rfl (by kernel_rfl) (fun _ _ _ h => h) (Or.inl ⟨by rfl, ?_⟩) ?_ ?_
              rotate_left
              · intro w'
                go_simp
                with_reducible rfl
              rotate_left
              · simp only [Act.put, List.setIfInBounds_toArray, List.set_cons_zero, List.set_cons_succ, i64_w, i32_w]
                rfl
              refine pure_ (i := 9) (N := some 72) (v := ?_) (a' := ?_) #[true, true, true, true, false, true, true, true, false, true, false, false, false, false, false, false, false, false, false, false] rfl rfl (by kernel_rfl) (fun _ _ _ h => h) (Or.inl ⟨by rfl, ?_⟩) ?_ ?_
              rotate_left
              · intro w'
                go_simp
                with_reducible rfl
              rotate_left
              · simp only [Act.put, List.setIfInBounds_toArray, List.set_cons_zero, List.set_cons_succ, i64_w, i32_w]
                rfl
              refine pure_ (i := 10) (N := some 73) (v := ?_) (a' := ?_) #[true, true, true, true, false, true, true, true, false, true, true, false, false, false, false, false, false, false, false, false] rfl rfl (by kernel_rfl) (fun _ _ _ h => h) (Or.inl ⟨by rfl, ?_⟩) ?_ ?_
              rotate_left
              · intro w'
                go_simp
                with_reducible rfl
              rotate_left
              · simp only [Act.put, List.setIfInBounds_toArray, List.set_cons_zero, List.set_cons_succ, i64_w, i32_w]
                rfl
              refine pure_ (i := 13) (N := some 76) (v := ?_) (a' := ?_) #[true, true, true, true, false, true, true, true, false, true, true, false, false, true, false, false, false, false, false, false] rfl rfl (by kernel_rfl) (fun _ _ _ h => h) (Or.inl ⟨by rfl, ?_⟩) ?_ ?_
              rotate_left
              · intro w'
                go_simp
                with_reducible rfl
              rotate_left
              · simp only [Act.put, List.setIfInBounds_toArray, List.set_cons_zero, List.set_cons_succ, i64_w, i32_w]
                rfl
              refine take_ (i := 4) (N := some 67) (v := ?_) (a' := ?_) #[true, true, true, true, true, true, true, true, false, true, true, false, false, true, false, false, false, false, false, false] rfl rfl (by kernel_rfl) (fun _ _ _ h => h) (Or.inl ⟨by rfl, ?_⟩) hHeld ?_ ?_
              rotate_left
              · rintro w' ⟨s0, s1, s2⟩
                go_simp
                with_reducible rfl
              rotate_left
              · simp only [Act.put, List.setIfInBounds_toArray, List.set_cons_zero, List.set_cons_succ, i64_w, i32_w]
                rfl
              refine take_ (i := 8) (N := some 71) (v := ?_) (a' := ?_) #[true, true, true, true, true, true, true, true, true, true, true, false, false, true, false, false, false, false, false, false] rfl rfl (by kernel_rfl) (fun _ _ _ h => h) (Or.inl ⟨by rfl, ?_⟩) hHeld ?_ ?_
              rotate_left
              · rintro w' ⟨s0, s1, s2⟩
                go_simp
                with_reducible rfl
              rotate_left
              · simp only [Act.put, List.setIfInBounds_toArray, List.set_cons_zero, List.set_cons_succ, i64_w, i32_w]
                rfl
              refine pure_ (i := 11) (N := some 74) (v := ?_) (a' := ?_) #[true, true, true, true, true, true, true, true, true, true, true, true, false, true, false, false, false, false, false, false] rfl rfl (by kernel_rfl) (fun _ _ _ h => h) (Or.inl ⟨by rfl, ?_⟩) ?_ ?_
              rotate_left
              · intro w'
                go_simp
                with_reducible rfl
              rotate_left
              · simp only [Act.put, List.setIfInBounds_toArray, List.set_cons_zero, List.set_cons_succ, i64_w, i32_w]
                rfl
              refine take_ (i := 12) (N := some 75) (v := ?_) (a' := ?_) #[true, true, true, true, true, true, true, true, true, true, true, true, true, true, false, false, false, false, false, false] rfl rfl (by kernel_rfl) (fun _ _ _ h => h) (Or.inl ⟨by rfl, ?_⟩) hHeld ?_ ?_
              rotate_left
              · rintro w' ⟨s0, s1, s2⟩
                go_simp
                with_reducible rfl
              rotate_left
              · simp only [Act.put, List.setIfInBounds_toArray, List.set_cons_zero, List.set_cons_succ, i64_w, i32_w]
                rfl
              refine pure_ (i := 14) (N := some 77) (v := ?_) (a' := ?_) #[true, true, true, true, true, true, true, true, true, true, true, true, true, true, true, false, false, false, false, false] rfl rfl (by kernel_rfl) (fun _ _ _ h => h) (Or.inl ⟨by rfl, ?_⟩) ?_ ?_
              rotate_left
              · intro w'
                go_simp
                with_reducible rfl
              rotate_left
              · simp only [Act.put, List.setIfInBounds_toArray, List.set_cons_zero, List.set_cons_succ, i64_w, i32_w]
                rfl
              refine one_ (i := 15) (N := some 78) #[true, true, true, true, true, true, true, true, true, true, true, true, true, true, true, true, false, false, false, false] rfl rfl (by kernel_rfl) (by decide) (fun K hK => ?_)
              refine value_ (w1 := ?_) (v := ?_) (by rfl) rfl ?_ ?_
              rotate_left 2
              · go_simp
                constructor
                · rfl
                · rfl
              refine hK.out _ _ ⟨cell_alloc_of y3 _, cell_alloc_of y1 _, cell_alloc_of y2 _⟩ (fun hHeld => ?_)
              clear hK K
              refine norm_ (a' := ?_) ?_ ?_
              rotate_left
              · show Act.put _ (some 78) _ = _
                simp only [Act.put, List.setIfInBounds_toArray, List.set_cons_zero, List.set_cons_succ, i64_w, i32_w]
                rfl
              refine one_ (i := 16) (N := some 79) #[true, true, true, true, true, true, true, true, true, true, true, true, true, true, true, true, true, false, false, false] rfl rfl (by kernel_rfl) (by decide) (fun K hK => ?_)
              have hw_ : (wp.alloc (.cells #[.string mk, .string s] 37)).drew = wp.drew.alloc (.cells ([.string mk, .string s] : List Value).toArray 37) := rfl
              rw [hw_]
              clear hw_
              refine Kd.R_append_step k37 (w0 := w) w.heap.size (by rfl) (.tmp 67) (.tmp 78) 25 37 (.agg #[(.string ⟨#[]⟩), (.string ⟨#[]⟩)]) 32 rfl Try.underlying25 info37 rfl (by decide) (by omega) (.slice Ao no co) OUT (⟨mk, s⟩ : S37) [.string mk, .string s] (fun _ => True) (fun _ => False) rfl rfl ?aP (fun _ hk => hk.elim) ?aF ?aO ?aB ?aS ?aL ?_
              (case aP => exact k37_mkM _ _ _ (⟨mk, s⟩ : S37))
              (case aF => exact (fun _ _ => trivial))
              (case aO => exact (by (with_reducible repeat (first | apply Kd.R_alloc | apply Kd.R_drewN | apply Kd.R_drew)); exact Z4.out))
              (case aB => exact (by repeat (first | (with_reducible first | exact HBw.out | apply below_alloc | apply pw_below_drewN | apply below_drew1) | exact HBw.out)))
              (case aS => exact (below_size (by repeat (first | (with_reducible first | exact HBw.out | apply below_alloc | apply pw_below_drewN | apply below_drew1) | exact HBw.out))))
              (case aL => have := HOL.out; have := HNO.out; omega)
              intro v9 w9 ho9 hb9 hg9 hat9
              obtain ⟨A9, c9, hv9⟩ := Kd.R_slice ho9
              subst hv9
              have hl9 : (OUT ++ [(⟨mk, s⟩ : S37)]).length = no + 1 := (by simp [HNO.out])
              rw [hl9] at ho9 ⊢
              have HO9 := Aside0.mk ho9
              have HB9 := Aside0.mk hb9
              have HG9 := Aside0.mk hg9
              have hgne := Kd.R_ne Z4.out Z1.out (by decide)
              have z19 : w9.heap[g]? = some (.cells #[.slice A1 l1.length c1, .slice (some ⟨gv2, 0, none⟩) (l0.length + 1) cv2, .map (some gm3), .slice Ao no co, .int .i64 0] 78 (0, 0)) := (hg9.block _ (blk_lt Z1.out) hgne).trans Z1.out
              have Z19 := Aside0.mk z19
              have x3 : w9.cell? ⟨g, 3, none⟩ = some (.slice Ao no co) := cell_blk z19 rfl
              have x1 : w9.cell? ⟨g, 1, none⟩ = some (.slice (some ⟨gv2, 0, none⟩) (l0.length + 1) cv2) := cell_blk z19 rfl
              have p29 := (hg9.block _ (blk_lt P2.out) (Kd.R_ne Z4.out P2.out (by decide))).trans P2.out
              have x2 : w9.cell? ⟨gv2, k + 1, none⟩ = some (.string mk) := (by rw [← y2]; simp only [World.cell?, p29, P2.out])
              have f3 : w9.frozen? ⟨g, 3, none⟩ = false := frozen_of_row _ _ _ _ _ z19
              clear ho9 hb9 hg9 hat9 z19 p29
              refine hK.out _ _ ⟨x3, x1, x2⟩ (fun hHeld => ?_)
              clear hK K
              refine norm_ (a' := ?_) ?_ ?_
              rotate_left
              · show Act.put _ (some 79) _ = _
                simp only [Act.put, List.setIfInBounds_toArray, List.set_cons_zero, List.set_cons_succ, i64_w, i32_w]
                rfl
              refine pure_ (i := 17) (N := some 80) (v := ?_) (a' := ?_) #[true, true, true, true, true, true, true, true, true, true, true, true, true, true, true, true, true, true, false, false] rfl rfl (by kernel_rfl) (fun _ _ _ h => h) (Or.inl ⟨by rfl, ?_⟩) ?_ ?_
              rotate_left
              · intro w'
                go_simp
                with_reducible rfl
              rotate_left
              · simp only [Act.put, List.setIfInBounds_toArray, List.set_cons_zero, List.set_cons_succ, i64_w, i32_w]
                rfl
              refine pure_ (i := 18) (N := some 81) (v := ?_) (a' := ?_) #[true, true, true, true, true, true, true, true, true, true, true, true, true, true, true, true, true, true, true, false] rfl rfl (by kernel_rfl) (fun _ _ _ h => h) (Or.inl ⟨by rfl, ?_⟩) ?_ ?_
              rotate_left
              · intro w'
                go_simp
                with_reducible rfl
              rotate_left
              · simp only [Act.put, List.setIfInBounds_toArray, List.set_cons_zero, List.set_cons_succ, i64_w, i32_w]
                rfl
              refine last_ (i := 19) (N := none) #[true, true, true, true, true, true, true, true, true, true, true, true, true, true, true, true, true, true, true, true] rfl rfl (by kernel_rfl) (by decide) (fun K hK => ?_)
              refine skip_ (w1 := ?_) (by rfl) rfl ?_ ?_
              rotate_left
              · go_simp
                rfl
              refine hK.out _ _ ?_
              clear hK K
              refine done_ (by kernel_rfl) ?_

              clear e1 hki hk0
              go_wp2
              go_roundw
              case measure => simp [intOf]; omega
              case rel =>
                have hgd := HG9.out
                have hne : ∀ (j : Nat) (cells : Array Value) (q : TypeId) (fr : Nat × Nat), wp.heap[j]? = some (.cells cells q fr) → q ≠ 37 → w9.heap[j]? = wp.heap[j]? := fun j cells q fr hj hq => HG9.out.block j (Array.getElem?_eq_some_iff.1 hj).1 (fun e => by
                  obtain ⟨cs, hcs⟩ := Kd.R_typed Z4.out j e.symm
                  rw [hcs] at hj; injection hj with hj; injection hj with _ hj; exact hq hj.symm)
                have h3' : Kd.R Kd.string 9 w9 w.heap.size (fun _ => True) (.slice (some ⟨gv2, 0, none⟩) (l0.length + 1) cv2) mks := Kd.R_map Z3.out (fun j cells q fr hj hq => hne j cells q fr hj (by
                  have : q = 9 := by simpa [Kd.string, Kd.scalar] using hq
                  rw [this]; decide))
                have h5' : LostIn w w9 w.heap.size gm3 l1.length (l1.length * 2002) lst := Z5.out.step fun j hj hq => HG9.out.block j hj (fun e => by
                  obtain ⟨cs, hcs⟩ := Kd.R_typed Z4.out j e.symm
                  have := hq _ _ _ hcs
                  exact absurd this (by decide))
                refine ⟨k + 1, by go_num, by omega, ⟨⟨.slice (some ⟨gv2, 0, none⟩) (l0.length + 1) cv2, gm3, .slice A9 (no + 1) c9, ?_, Z2.out, Kd.R_set h3' Z19.out (by decide) _ _, ?_, h5'.set Z19.out (by decide) _⟩⟩, ⟨HB9.out.setCell (p := ⟨g, 3, none⟩) Z2.out _⟩⟩
                · rw [heap_set_same Z19.out]
                  simp
                · rw [HTRK.out]
                  exact Kd.R_set HO9.out Z19.out (by decide) _ _
            · have hk' : k = l0.length := by omega
              subst hk'
              go_wp2_with fail
              refine (HPUT.out _ l0.length _ (Nat.le_refl _) HB2.out HI2.out).mono ?_
              rintro e' wp ⟨rfl, HIp, HBp⟩
              rw [← HEND.out] at HIp
              obtain ⟨vm3, gm3, vo3, z1, z2, z3, z4, z5⟩ := HIp.out
              have c4 : wp.cell? ⟨g, 4, none⟩ = some (.int .i64 0) := cell_blk z1 rfl
              have c3 : wp.cell? ⟨g, 3, none⟩ = some vo3 := cell_blk z1 rfl
              have Z4 := Aside0.mk z4
              clear z1 z2 z3 z4 z5
              go_wp2
              go_ret2
              exact ⟨_, rfl, Z4.out, HB2.out.trans HBp.out⟩
    · rw [if_pos hc] at hT
      obtain ⟨e1, e2⟩ := Prod.mk.inj hT
      subst e1
      subst e2
      have b1 : (cde == 0) = false := by simpa using hc
      have b2 : decide (cde = 0) = false := decide_eq_false hc
      go_wp2
      go_ret2
      exact ⟨_, rfl, Kd.R_nil _ _ _ _ _, HB3.out⟩
  · cases h
end Go.Proofs.Ytnlekganlliikaa.X
-- part XKn1
namespace Go.Proofs.Ytnlekganlliikaa.X
open Go.RowKit Go.Proofs.YtnlekganlliikaaW.PrintWords Go.Proofs.YtnlekganlliikaaW.PrintLast Go.Proofs.YtnlekganlliikaaW.PrintMore
attribute [local go_sem] max2_int min2_int max_two min_two max_three min_three max_four min_four   -- for this text's walks alone
set_option linter.unusedVariables false
set_option linter.unusedSimpArgs false
attribute [local go_sem high] eqA37
def sennitlaw20_awake.f  : Option (Bool) := (table_Table.f (([(⟨#[97, 10]⟩ : ByteArray), (⟨#[99, 10]⟩ : ByteArray)] : List ByteArray)) (([(([(⟨#[97, 10]⟩ : ByteArray), (⟨#[98, 10]⟩ : ByteArray)] : List ByteArray)), (([(⟨#[97, 10]⟩ : ByteArray), (⟨#[99, 10]⟩ : ByteArray)] : List ByteArray))] : List (List ByteArray)))).bind fun bt113 => ((table_Table.f ([] : List ByteArray) ([] : List (List ByteArray))).bind fun bt117 => ((table_Column.f bt113.1 0).bind fun t121 => (if bt113.2 = 0 then (if bt117.2 = 1 then (if (bt113.1.length : Int) = 3 then (if 0 < (bt113.1.length : Int) then (if ((rd_T37 bt113.1 0).f0).toList = ([32, 32] : List UInt8) then (if 1 < (bt113.1.length : Int) then (if ((((rd_T37 bt113.1 1).f0).toList) == ([45, 32] : List UInt8) && ((((rd_T37 bt113.1 1).f1).toList) == ([98, 10] : List UInt8))) = true then (if 2 < (bt113.1.length : Int) then (if ((rd_T37 bt113.1 2).f0).toList = ([43, 32] : List UInt8) then ((table_Lost.f ((rd_T37 bt113.1 1).f0) ((rd_T37 bt113.1 1).f1)).bind fun t128 => (if t128 = true then ((table_Lost.f ((rd_T37 bt113.1 2).f0) ((rd_T37 bt113.1 2).f1)).bind fun t130 => (if t130 = true then (some false) else (if (t121.length : Int) = 2 then ((table_Result.f bt113.1).bind fun t131 => (some ((t131.length : Int) == 2))) else (some false)))) else (some false))) else (some false)) else (none)) else (some false)) else (none)) else (some false)) else (none)) else (some false)) else (some false)) else (some false))))
theorem sennitlaw20_awake.true_ : sennitlaw20_awake.f = some true := by decide +kernel
set_option maxHeartbeats 8000000 in
set_option maxRecDepth 100000 in
theorem sennitlaw20_awake.calls  (r : Bool) (w : World) (h : sennitlaw20_awake.f  = some r) :
    Calls Try.prog 23 #[] w fun e w' => e = .returned (.bool r) ∧ Below w.heap.size w w' := by
  have hrt_ : r = true := Option.some.inj (h.symm.trans sennitlaw20_awake.true_)
  have hu37 := Try.underlying37
  have HB := Aside0.mk (Below.refl w.heap.size w)
  have H : ((table_Table.f (([(⟨#[97, 10]⟩ : ByteArray), (⟨#[99, 10]⟩ : ByteArray)] : List ByteArray)) (([(([(⟨#[97, 10]⟩ : ByteArray), (⟨#[98, 10]⟩ : ByteArray)] : List ByteArray)), (([(⟨#[97, 10]⟩ : ByteArray), (⟨#[99, 10]⟩ : ByteArray)] : List ByteArray))] : List (List ByteArray)))).bind fun bt113 => ((table_Table.f ([] : List ByteArray) ([] : List (List ByteArray))).bind fun bt117 => ((table_Column.f bt113.1 0).bind fun t121 => (if bt113.2 = 0 then (if bt117.2 = 1 then (if (bt113.1.length : Int) = 3 then (if 0 < (bt113.1.length : Int) then (if ((rd_T37 bt113.1 0).f0).toList = ([32, 32] : List UInt8) then (if 1 < (bt113.1.length : Int) then (if ((((rd_T37 bt113.1 1).f0).toList) == ([45, 32] : List UInt8) && ((((rd_T37 bt113.1 1).f1).toList) == ([98, 10] : List UInt8))) = true then (if 2 < (bt113.1.length : Int) then (if ((rd_T37 bt113.1 2).f0).toList = ([43, 32] : List UInt8) then ((table_Lost.f ((rd_T37 bt113.1 1).f0) ((rd_T37 bt113.1 1).f1)).bind fun t128 => (if t128 = true then ((table_Lost.f ((rd_T37 bt113.1 2).f0) ((rd_T37 bt113.1 2).f1)).bind fun t130 => (if t130 = true then (some false) else (if (t121.length : Int) = 2 then ((table_Result.f bt113.1).bind fun t131 => (some ((t131.length : Int) == 2))) else (some false)))) else (some false))) else (some false)) else (none)) else (some false)) else (none)) else (some false)) else (none)) else (some false)) else (some false)) else (some false))))) = some r := h
  clear h
  obtain ⟨y101, hy101⟩ : ∃ y_ : List ByteArray, y_ = (([(⟨#[97, 10]⟩ : ByteArray), (⟨#[99, 10]⟩ : ByteArray)] : List ByteArray)) := ⟨_, rfl⟩
  replace H : ((table_Table.f y101 (([(([(⟨#[97, 10]⟩ : ByteArray), (⟨#[98, 10]⟩ : ByteArray)] : List ByteArray)), (([(⟨#[97, 10]⟩ : ByteArray), (⟨#[99, 10]⟩ : ByteArray)] : List ByteArray))] : List (List ByteArray)))).bind fun bt113 => ((table_Table.f ([] : List ByteArray) ([] : List (List ByteArray))).bind fun bt117 => ((table_Column.f bt113.1 0).bind fun t121 => (if bt113.2 = 0 then (if bt117.2 = 1 then (if (bt113.1.length : Int) = 3 then (if 0 < (bt113.1.length : Int) then (if ((rd_T37 bt113.1 0).f0).toList = ([32, 32] : List UInt8) then (if 1 < (bt113.1.length : Int) then (if ((((rd_T37 bt113.1 1).f0).toList) == ([45, 32] : List UInt8) && ((((rd_T37 bt113.1 1).f1).toList) == ([98, 10] : List UInt8))) = true then (if 2 < (bt113.1.length : Int) then (if ((rd_T37 bt113.1 2).f0).toList = ([43, 32] : List UInt8) then ((table_Lost.f ((rd_T37 bt113.1 1).f0) ((rd_T37 bt113.1 1).f1)).bind fun t128 => (if t128 = true then ((table_Lost.f ((rd_T37 bt113.1 2).f0) ((rd_T37 bt113.1 2).f1)).bind fun t130 => (if t130 = true then (some false) else (if (t121.length : Int) = 2 then ((table_Result.f bt113.1).bind fun t131 => (some ((t131.length : Int) == 2))) else (some false)))) else (some false))) else (some false)) else (none)) else (some false)) else (none)) else (some false)) else (none)) else (some false)) else (some false)) else (some false))))) = some r := by first | (rw [hy101]; with_reducible exact H) | (have H2_ := (Option.bind_some _ _).symm.trans H; rw [hy101]; with_reducible exact H2_) | (have H2_ := (Option.bind_some _ _).symm.trans H; with_reducible exact H2_) | with_reducible exact H | (rw [hy101]; exact H) | exact H
  have Ny101 := Aside0.mk hy101
  clear hy101
  obtain ⟨y104, hy104⟩ : ∃ y_ : List ByteArray, y_ = (([(⟨#[97, 10]⟩ : ByteArray), (⟨#[98, 10]⟩ : ByteArray)] : List ByteArray)) := ⟨_, rfl⟩
  replace H : ((table_Table.f y101 (([y104, (([(⟨#[97, 10]⟩ : ByteArray), (⟨#[99, 10]⟩ : ByteArray)] : List ByteArray))] : List (List ByteArray)))).bind fun bt113 => ((table_Table.f ([] : List ByteArray) ([] : List (List ByteArray))).bind fun bt117 => ((table_Column.f bt113.1 0).bind fun t121 => (if bt113.2 = 0 then (if bt117.2 = 1 then (if (bt113.1.length : Int) = 3 then (if 0 < (bt113.1.length : Int) then (if ((rd_T37 bt113.1 0).f0).toList = ([32, 32] : List UInt8) then (if 1 < (bt113.1.length : Int) then (if ((((rd_T37 bt113.1 1).f0).toList) == ([45, 32] : List UInt8) && ((((rd_T37 bt113.1 1).f1).toList) == ([98, 10] : List UInt8))) = true then (if 2 < (bt113.1.length : Int) then (if ((rd_T37 bt113.1 2).f0).toList = ([43, 32] : List UInt8) then ((table_Lost.f ((rd_T37 bt113.1 1).f0) ((rd_T37 bt113.1 1).f1)).bind fun t128 => (if t128 = true then ((table_Lost.f ((rd_T37 bt113.1 2).f0) ((rd_T37 bt113.1 2).f1)).bind fun t130 => (if t130 = true then (some false) else (if (t121.length : Int) = 2 then ((table_Result.f bt113.1).bind fun t131 => (some ((t131.length : Int) == 2))) else (some false)))) else (some false))) else (some false)) else (none)) else (some false)) else (none)) else (some false)) else (none)) else (some false)) else (some false)) else (some false))))) = some r := by first | (rw [hy104]; with_reducible exact H) | (have H2_ := (Option.bind_some _ _).symm.trans H; rw [hy104]; with_reducible exact H2_) | (have H2_ := (Option.bind_some _ _).symm.trans H; with_reducible exact H2_) | with_reducible exact H | (rw [hy104]; exact H) | exact H
  have Ny104 := Aside0.mk hy104
  clear hy104
  obtain ⟨y107, hy107⟩ : ∃ y_ : List ByteArray, y_ = (([(⟨#[97, 10]⟩ : ByteArray), (⟨#[99, 10]⟩ : ByteArray)] : List ByteArray)) := ⟨_, rfl⟩
  replace H : ((table_Table.f y101 (([y104, y107] : List (List ByteArray)))).bind fun bt113 => ((table_Table.f ([] : List ByteArray) ([] : List (List ByteArray))).bind fun bt117 => ((table_Column.f bt113.1 0).bind fun t121 => (if bt113.2 = 0 then (if bt117.2 = 1 then (if (bt113.1.length : Int) = 3 then (if 0 < (bt113.1.length : Int) then (if ((rd_T37 bt113.1 0).f0).toList = ([32, 32] : List UInt8) then (if 1 < (bt113.1.length : Int) then (if ((((rd_T37 bt113.1 1).f0).toList) == ([45, 32] : List UInt8) && ((((rd_T37 bt113.1 1).f1).toList) == ([98, 10] : List UInt8))) = true then (if 2 < (bt113.1.length : Int) then (if ((rd_T37 bt113.1 2).f0).toList = ([43, 32] : List UInt8) then ((table_Lost.f ((rd_T37 bt113.1 1).f0) ((rd_T37 bt113.1 1).f1)).bind fun t128 => (if t128 = true then ((table_Lost.f ((rd_T37 bt113.1 2).f0) ((rd_T37 bt113.1 2).f1)).bind fun t130 => (if t130 = true then (some false) else (if (t121.length : Int) = 2 then ((table_Result.f bt113.1).bind fun t131 => (some ((t131.length : Int) == 2))) else (some false)))) else (some false))) else (some false)) else (none)) else (some false)) else (none)) else (some false)) else (none)) else (some false)) else (some false)) else (some false))))) = some r := by first | (rw [hy107]; with_reducible exact H) | (have H2_ := (Option.bind_some _ _).symm.trans H; rw [hy107]; with_reducible exact H2_) | (have H2_ := (Option.bind_some _ _).symm.trans H; with_reducible exact H2_) | with_reducible exact H | (rw [hy107]; exact H) | exact H
  have Ny107 := Aside0.mk hy107
  clear hy107
  obtain ⟨y110, hy110⟩ : ∃ y_ : List (List ByteArray), y_ = (([y104, y107] : List (List ByteArray))) := ⟨_, rfl⟩
  replace H : ((table_Table.f y101 y110).bind fun bt113 => ((table_Table.f ([] : List ByteArray) ([] : List (List ByteArray))).bind fun bt117 => ((table_Column.f bt113.1 0).bind fun t121 => (if bt113.2 = 0 then (if bt117.2 = 1 then (if (bt113.1.length : Int) = 3 then (if 0 < (bt113.1.length : Int) then (if ((rd_T37 bt113.1 0).f0).toList = ([32, 32] : List UInt8) then (if 1 < (bt113.1.length : Int) then (if ((((rd_T37 bt113.1 1).f0).toList) == ([45, 32] : List UInt8) && ((((rd_T37 bt113.1 1).f1).toList) == ([98, 10] : List UInt8))) = true then (if 2 < (bt113.1.length : Int) then (if ((rd_T37 bt113.1 2).f0).toList = ([43, 32] : List UInt8) then ((table_Lost.f ((rd_T37 bt113.1 1).f0) ((rd_T37 bt113.1 1).f1)).bind fun t128 => (if t128 = true then ((table_Lost.f ((rd_T37 bt113.1 2).f0) ((rd_T37 bt113.1 2).f1)).bind fun t130 => (if t130 = true then (some false) else (if (t121.length : Int) = 2 then ((table_Result.f bt113.1).bind fun t131 => (some ((t131.length : Int) == 2))) else (some false)))) else (some false))) else (some false)) else (none)) else (some false)) else (none)) else (some false)) else (none)) else (some false)) else (some false)) else (some false))))) = some r := by first | (rw [hy110]; with_reducible exact H) | (have H2_ := (Option.bind_some _ _).symm.trans H; rw [hy110]; with_reducible exact H2_) | (have H2_ := (Option.bind_some _ _).symm.trans H; with_reducible exact H2_) | with_reducible exact H | (rw [hy110]; exact H) | exact H
  have Ny110 := Aside0.mk hy110
  clear hy110
  replace H := Option.bind_eq_some_iff.mp H
  obtain ⟨⟨t113, t114⟩, A10, H⟩ := H
  replace H : ((table_Table.f ([] : List ByteArray) ([] : List (List ByteArray))).bind fun bt117 => ((table_Column.f t113 0).bind fun t121 => (if t114 = 0 then (if bt117.2 = 1 then (if (t113.length : Int) = 3 then (if 0 < (t113.length : Int) then (if ((rd_T37 t113 0).f0).toList = ([32, 32] : List UInt8) then (if 1 < (t113.length : Int) then (if ((((rd_T37 t113 1).f0).toList) == ([45, 32] : List UInt8) && ((((rd_T37 t113 1).f1).toList) == ([98, 10] : List UInt8))) = true then (if 2 < (t113.length : Int) then (if ((rd_T37 t113 2).f0).toList = ([43, 32] : List UInt8) then ((table_Lost.f ((rd_T37 t113 1).f0) ((rd_T37 t113 1).f1)).bind fun t128 => (if t128 = true then ((table_Lost.f ((rd_T37 t113 2).f0) ((rd_T37 t113 2).f1)).bind fun t130 => (if t130 = true then (some false) else (if (t121.length : Int) = 2 then ((table_Result.f t113).bind fun t131 => (some ((t131.length : Int) == 2))) else (some false)))) else (some false))) else (some false)) else (none)) else (some false)) else (none)) else (some false)) else (none)) else (some false)) else (some false)) else (some false)))) = some r := H
  have A1 := Aside0.mk A10
  clear A10
  replace H := Option.bind_eq_some_iff.mp H
  obtain ⟨⟨t117, t118⟩, A20, H⟩ := H
  replace H : ((table_Column.f t113 0).bind fun t121 => (if t114 = 0 then (if t118 = 1 then (if (t113.length : Int) = 3 then (if 0 < (t113.length : Int) then (if ((rd_T37 t113 0).f0).toList = ([32, 32] : List UInt8) then (if 1 < (t113.length : Int) then (if ((((rd_T37 t113 1).f0).toList) == ([45, 32] : List UInt8) && ((((rd_T37 t113 1).f1).toList) == ([98, 10] : List UInt8))) = true then (if 2 < (t113.length : Int) then (if ((rd_T37 t113 2).f0).toList = ([43, 32] : List UInt8) then ((table_Lost.f ((rd_T37 t113 1).f0) ((rd_T37 t113 1).f1)).bind fun t128 => (if t128 = true then ((table_Lost.f ((rd_T37 t113 2).f0) ((rd_T37 t113 2).f1)).bind fun t130 => (if t130 = true then (some false) else (if (t121.length : Int) = 2 then ((table_Result.f t113).bind fun t131 => (some ((t131.length : Int) == 2))) else (some false)))) else (some false))) else (some false)) else (none)) else (some false)) else (none)) else (some false)) else (none)) else (some false)) else (some false)) else (some false))) = some r := H
  have A2 := Aside0.mk A20
  clear A20
  replace H := Option.bind_eq_some_iff.mp H
  obtain ⟨t121, A30, H⟩ := H
  replace H : (if t114 = 0 then (if t118 = 1 then (if (t113.length : Int) = 3 then (if 0 < (t113.length : Int) then (if ((rd_T37 t113 0).f0).toList = ([32, 32] : List UInt8) then (if 1 < (t113.length : Int) then (if ((((rd_T37 t113 1).f0).toList) == ([45, 32] : List UInt8) && ((((rd_T37 t113 1).f1).toList) == ([98, 10] : List UInt8))) = true then (if 2 < (t113.length : Int) then (if ((rd_T37 t113 2).f0).toList = ([43, 32] : List UInt8) then ((table_Lost.f ((rd_T37 t113 1).f0) ((rd_T37 t113 1).f1)).bind fun t128 => (if t128 = true then ((table_Lost.f ((rd_T37 t113 2).f0) ((rd_T37 t113 2).f1)).bind fun t130 => (if t130 = true then (some false) else (if (t121.length : Int) = 2 then ((table_Result.f t113).bind fun t131 => (some ((t131.length : Int) == 2))) else (some false)))) else (some false))) else (some false)) else (none)) else (some false)) else (none)) else (some false)) else (none)) else (some false)) else (some false)) else (some false)) = some r := H
  have A3 := Aside0.mk A30
  clear A30
  by_cases c4 : t114 = 0
  · rw [if_pos c4] at H
    have c4b0 : (t114 == 0) = true := beq_iff_eq.mpr c4
    have c4b1 : (t114 != 0) = false := bne_eq_false_iff_eq.mpr c4
    clear c4
    by_cases c5 : t118 = 1
    · rw [if_pos c5] at H
      have c5b0 : (t118 == 1) = true := beq_iff_eq.mpr c5
      have c5b1 : (t118 != 1) = false := bne_eq_false_iff_eq.mpr c5
      clear c5
      by_cases c6 : (t113.length : Int) = 3
      · rw [if_pos c6] at H
        have c6b0 : ((t113.length : Int) == 3) = true := beq_iff_eq.mpr c6
        have c6b1 : ((t113.length : Int) != 3) = false := bne_eq_false_iff_eq.mpr c6
        clear c6
        by_cases c7 : 0 < (t113.length : Int)
        · rw [if_pos c7] at H
          have c7b0 : decide (0 < (t113.length : Int)) = true := decide_eq_true c7
          have c7b1 : decide (0 < t113.length) = true := decide_eq_true (by omega)
          clear c7
          by_cases c8 : ((rd_T37 t113 0).f0).toList = ([32, 32] : List UInt8)
          · rw [if_pos c8] at H
            have c8b0 : (((rd_T37 t113 0).f0).toList == ([32, 32] : List UInt8)) = true := beq_iff_eq.mpr c8
            have c8b1 : (((rd_T37 t113 0).f0).toList != ([32, 32] : List UInt8)) = false := bne_eq_false_iff_eq.mpr c8
            clear c8
            by_cases c9 : 1 < (t113.length : Int)
            · rw [if_pos c9] at H
              have c9b0 : decide (1 < (t113.length : Int)) = true := decide_eq_true c9
              have c9b1 : decide (1 < t113.length) = true := decide_eq_true (by omega)
              clear c9
              by_cases c10 : ((((rd_T37 t113 1).f0).toList) == ([45, 32] : List UInt8) && ((((rd_T37 t113 1).f1).toList) == ([98, 10] : List UInt8))) = true
              · rw [if_pos c10] at H
                have c10b0 : ((((rd_T37 t113 1).f0).toList) == ([45, 32] : List UInt8) && ((((rd_T37 t113 1).f1).toList) == ([98, 10] : List UInt8))) = true := c10
                (try (have c10b1 : decide ((((rd_T37 t113 1).f0).toList) = ([45, 32] : List UInt8) && ((((rd_T37 t113 1).f1).toList) == ([98, 10] : List UInt8))) = true := by simpa using c10))
                (try (have c10b2 : ((((rd_T37 t113 1).f0).toList) == ([45, 32] : List UInt8) && ((((rd_T37 t113 1).f1).toList) == ([98, 10] : List UInt8))) = true := by simpa using c10))
                clear c10
                by_cases c11 : 2 < (t113.length : Int)
                · rw [if_pos c11] at H
                  have c11b0 : decide (2 < (t113.length : Int)) = true := decide_eq_true c11
                  have c11b1 : decide (2 < t113.length) = true := decide_eq_true (by omega)
                  clear c11
                  by_cases c12 : ((rd_T37 t113 2).f0).toList = ([43, 32] : List UInt8)
                  · rw [if_pos c12] at H
                    have c12b0 : (((rd_T37 t113 2).f0).toList == ([43, 32] : List UInt8)) = true := beq_iff_eq.mpr c12
                    have c12b1 : (((rd_T37 t113 2).f0).toList != ([43, 32] : List UInt8)) = false := bne_eq_false_iff_eq.mpr c12
                    clear c12
                    replace H := Option.bind_eq_some_iff.mp H
                    obtain ⟨t128, A130, H⟩ := H
                    replace H : (if t128 = true then ((table_Lost.f ((rd_T37 t113 2).f0) ((rd_T37 t113 2).f1)).bind fun t130 => (if t130 = true then (some false) else (if (t121.length : Int) = 2 then ((table_Result.f t113).bind fun t131 => (some ((t131.length : Int) == 2))) else (some false)))) else (some false)) = some r := H
                    have A13 := Aside0.mk A130
                    clear A130
                    by_cases c14 : t128 = true
                    · subst c14
                      have H1 : ((table_Lost.f ((rd_T37 t113 2).f0) ((rd_T37 t113 2).f1)).bind fun t130 => (if t130 = true then (some false) else (if (t121.length : Int) = 2 then ((table_Result.f t113).bind fun t131 => (some ((t131.length : Int) == 2))) else (some false)))) = some r := by rw [if_pos rfl] at H; exact H
                      clear H
                      have H := H1
                      clear H1
                      replace H := Option.bind_eq_some_iff.mp H
                      obtain ⟨t130, A150, H⟩ := H
                      replace H : (if t130 = true then (some false) else (if (t121.length : Int) = 2 then ((table_Result.f t113).bind fun t131 => (some ((t131.length : Int) == 2))) else (some false))) = some r := H
                      have A15 := Aside0.mk A150
                      clear A150
                      by_cases c16 : t130 = true
                      · subst c16
                        have H1 : (some false) = some r := by rw [if_pos rfl] at H; exact H
                        clear H
                        have H := H1
                        clear H1
                        exact absurd (Option.some.inj H) (by rw [hrt_]; decide)
                      · replace c16 := Bool.eq_false_iff.mpr c16
                        subst c16
                        have H1 : (if (t121.length : Int) = 2 then ((table_Result.f t113).bind fun t131 => (some ((t131.length : Int) == 2))) else (some false)) = some r := by rw [if_neg (show ¬ (false = true) by decide)] at H; exact H
                        clear H
                        have H := H1
                        clear H1
                        by_cases c35 : (t121.length : Int) = 2
                        · rw [if_pos c35] at H
                          have c35b0 : ((t121.length : Int) == 2) = true := beq_iff_eq.mpr c35
                          have c35b1 : ((t121.length : Int) != 2) = false := bne_eq_false_iff_eq.mpr c35
                          clear c35
                          replace H := Option.bind_eq_some_iff.mp H
                          obtain ⟨t131, A360, H⟩ := H
                          replace H : (some ((t131.length : Int) == 2)) = some r := H
                          have A36 := Aside0.mk A360
                          clear A360
                          obtain rfl := Option.some.inj H
                          go_enter Try.func23, Try.ntmps23
                          go_wp2_with (first | ((with_reducible refine gate_dst (N := 7) rfl ?_); (try (refine gate_guard (by rfl) ?_; dsimp only)); refine Kd.R_lit Kd.string _ 9 ?hg (N := 7) ?hd (xs := ([(⟨#[97, 10]⟩ : ByteArray), (⟨#[99, 10]⟩ : ByteArray)] : List ByteArray)) (inner := [.string (⟨#[97, 10]⟩ : ByteArray), .string (⟨#[99, 10]⟩ : ByteArray)]) (ok := fun _ => True) (okp := fun _ => True) ?hr ?hp (fun _ hk => hk) trivial (Below.refl _ _) (Nat.le_refl _) (by simp) ?_; (case hd => rfl); (case hg => rfl); (case hr => first | (go_simp; done) | (go_simp; rfl)); (case hp => exact (Reps.one (show Kd.M Kd.string _ _ _ (⟨#[97, 10]⟩ : ByteArray) [.string (⟨#[97, 10]⟩ : ByteArray)] from rfl) (Reps.one (show Kd.M Kd.string _ _ _ (⟨#[99, 10]⟩ : ByteArray) [.string (⟨#[99, 10]⟩ : ByteArray)] from rfl) (Reps.none _ _)))); intro v102 w37 ho38 hb hg_ hnew_; clear hg_ hnew_; (first | rw [← Ny101.out] at ho38 | (simp only [Int.reduceToNat] at ho38; rw [← Ny101.out] at ho38)); have n0_ := Aside0.mk (Kd.R_lower ho38 (below_size (by repeat (first | (with_reducible first | exact HB.out | apply below_alloc | apply pw_below_drewN | apply below_drew1) | exact HB.out)))); have n1_ := Aside0.mk (below_step (by repeat (first | (with_reducible first | exact HB.out | apply below_alloc | apply pw_below_drewN | apply below_drew1) | exact HB.out)) hb); clear HB; have HO103 := n0_; have HB := n1_; clear n0_ n1_; clear hb ho38) | ((with_reducible refine gate_dst (N := 8) rfl ?_); (try (refine gate_guard (by rfl) ?_; dsimp only)); refine Kd.R_lit Kd.string _ 9 ?hg (N := 8) ?hd (xs := ([(⟨#[97, 10]⟩ : ByteArray), (⟨#[98, 10]⟩ : ByteArray)] : List ByteArray)) (inner := [.string (⟨#[97, 10]⟩ : ByteArray), .string (⟨#[98, 10]⟩ : ByteArray)]) (ok := fun _ => True) (okp := fun _ => True) ?hr ?hp (fun _ hk => hk) trivial (Below.refl _ _) (Nat.le_refl _) (by simp) ?_; (case hd => rfl); (case hg => rfl); (case hr => first | (go_simp; done) | (go_simp; rfl)); (case hp => exact (Reps.one (show Kd.M Kd.string _ _ _ (⟨#[97, 10]⟩ : ByteArray) [.string (⟨#[97, 10]⟩ : ByteArray)] from rfl) (Reps.one (show Kd.M Kd.string _ _ _ (⟨#[98, 10]⟩ : ByteArray) [.string (⟨#[98, 10]⟩ : ByteArray)] from rfl) (Reps.none _ _)))); intro v105 w39 ho40 hb hg_ hnew_; clear hg_ hnew_; (first | rw [← Ny104.out] at ho40 | (simp only [Int.reduceToNat] at ho40; rw [← Ny104.out] at ho40)); have n0_ := Aside0.mk (Kd.R_elder' (by (with_reducible repeat (first | apply Kd.R_alloc | apply Kd.R_drewN | apply Kd.R_drew)); exact HO103.out) (Kd.R_base ho40) hb); have n1_ := Aside0.mk (Kd.R_lower (Kd.R_new' ho40 (Kd.R_lt (by (with_reducible repeat (first | apply Kd.R_alloc | apply Kd.R_drewN | apply Kd.R_drew)); exact HO103.out))) (below_size (by repeat (first | (with_reducible first | exact HB.out | apply below_alloc | apply pw_below_drewN | apply below_drew1) | exact HB.out)))); have n2_ := Aside0.mk (below_step (by repeat (first | (with_reducible first | exact HB.out | apply below_alloc | apply pw_below_drewN | apply below_drew1) | exact HB.out)) hb); clear HO103; clear HB; have HO103 := n0_; have HO106 := n1_; have HB := n2_; clear n0_ n1_ n2_; clear hb ho40) | ((with_reducible refine gate_dst (N := 9) rfl ?_); (try (refine gate_guard (by rfl) ?_; dsimp only)); refine Kd.R_lit Kd.string _ 9 ?hg (N := 9) ?hd (xs := ([(⟨#[97, 10]⟩ : ByteArray), (⟨#[99, 10]⟩ : ByteArray)] : List ByteArray)) (inner := [.string (⟨#[97, 10]⟩ : ByteArray), .string (⟨#[99, 10]⟩ : ByteArray)]) (ok := fun _ => True) (okp := fun _ => True) ?hr ?hp (fun _ hk => hk) trivial (Below.refl _ _) (Nat.le_refl _) (by simp) ?_; (case hd => rfl); (case hg => rfl); (case hr => first | (go_simp; done) | (go_simp; rfl)); (case hp => exact (Reps.one (show Kd.M Kd.string _ _ _ (⟨#[97, 10]⟩ : ByteArray) [.string (⟨#[97, 10]⟩ : ByteArray)] from rfl) (Reps.one (show Kd.M Kd.string _ _ _ (⟨#[99, 10]⟩ : ByteArray) [.string (⟨#[99, 10]⟩ : ByteArray)] from rfl) (Reps.none _ _)))); intro v108 w41 ho42 hb hg_ hnew_; clear hg_ hnew_; (first | rw [← Ny107.out] at ho42 | (simp only [Int.reduceToNat] at ho42; rw [← Ny107.out] at ho42)); have n0_ := Aside0.mk (Kd.R_elder' (by (with_reducible repeat (first | apply Kd.R_alloc | apply Kd.R_drewN | apply Kd.R_drew)); exact HO103.out) (Kd.R_base ho42) hb); have n1_ := Aside0.mk (Kd.R_elder' (by (with_reducible repeat (first | apply Kd.R_alloc | apply Kd.R_drewN | apply Kd.R_drew)); exact HO106.out) (Kd.R_base ho42) hb); have n2_ := Aside0.mk (Kd.R_lower (Kd.R_new' (Kd.R_new' ho42 (Kd.R_lt (by (with_reducible repeat (first | apply Kd.R_alloc | apply Kd.R_drewN | apply Kd.R_drew)); exact HO103.out))) (Kd.R_lt (by (with_reducible repeat (first | apply Kd.R_alloc | apply Kd.R_drewN | apply Kd.R_drew)); exact HO106.out))) (below_size (by repeat (first | (with_reducible first | exact HB.out | apply below_alloc | apply pw_below_drewN | apply below_drew1) | exact HB.out)))); have n3_ := Aside0.mk (below_step (by repeat (first | (with_reducible first | exact HB.out | apply below_alloc | apply pw_below_drewN | apply below_drew1) | exact HB.out)) hb); clear HO103; clear HO106; clear HB; have HO103 := n0_; have HO106 := n1_; have HO109 := n2_; have HB := n3_; clear n0_ n1_ n2_ n3_; clear hb ho42; obtain ⟨Ao43, co43, eo43⟩ := Kd.R_slice HO106.out; subst eo43; obtain ⟨Ao44, co44, eo44⟩ := Kd.R_slice HO109.out; subst eo44) | ((with_reducible refine gate_dst (N := 10) rfl ?_); (try (refine gate_guard (by rfl) ?_; dsimp only)); refine Kd.N_lit (Kd.slice 9 Kd.string) _ 34 ?hg (N' := 10) ?hd (xs := ([y104, y107] : List (List ByteArray))) (inner := [.slice Ao43 y104.length co43, .slice Ao44 y107.length co44]) (ok := (fun k_ => some k_ ≠ (v102 : Value).ownBlock)) (okp := (fun k_ => some k_ ≠ (v102 : Value).ownBlock)) ?hr ?hp (fun _ hk => hk) ((show ∀ k_, w41.heap.size ≤ k_ → (fun k_ => some k_ ≠ (v102 : Value).ownBlock) k_ from fun k_ hk => Kd.fresh' (Kd.R_lt (by (with_reducible repeat (first | apply Kd.R_alloc | apply Kd.R_drewN | apply Kd.R_drew)); exact HO103.out)) k_ hk) _ (Nat.le_refl _)) (Below.refl _ _) (Nat.le_refl _) (by simp) ?_; (case hd => rfl); (case hg => rfl); (case hr => first | (go_simp; done) | (go_simp; rfl)); (case hp => first | exact (Reps.one (show Kd.FK (Kd.slice 9 Kd.string) _ _ y104 [.slice Ao43 y104.length co43] from (Kd.FK_slice_mk (Kd.R_reads' (Kd.R_mono (ok' := (fun k_ => some k_ ≠ (v102 : Value).ownBlock)) (HO106.out) (fun k_ hk => hk.1.2))).2.1 (Kd.R_F (Kd.R_mono (ok' := (fun k_ => some k_ ≠ (v102 : Value).ownBlock)) (HO106.out) (fun k_ hk => hk.1.2))))) (Reps.one (show Kd.FK (Kd.slice 9 Kd.string) _ _ y107 [.slice Ao44 y107.length co44] from (Kd.FK_slice_mk (Kd.R_reads' (Kd.R_mono (ok' := (fun k_ => some k_ ≠ (v102 : Value).ownBlock)) (HO109.out) (fun k_ hk => hk.1.2))).2.1 (Kd.R_F (Kd.R_mono (ok' := (fun k_ => some k_ ≠ (v102 : Value).ownBlock)) (HO109.out) (fun k_ hk => hk.1.2))))) (Reps.none _ _))) | exact (Reps.one (show Kd.FK (Kd.slice 9 Kd.string) _ _ y104 [.slice Ao43 y104.length co43] from (Kd.FK_slice_mk (Kd.R_reads' (Kd.R_mono (ok' := (fun k_ => some k_ ≠ (v102 : Value).ownBlock)) (HO106.out) (fun k_ hk => hk.1.2))).2.1 (Kd.R_F (Kd.R_mono (ok' := (fun k_ => some k_ ≠ (v102 : Value).ownBlock)) (Kd.R_drewN HO106.out _) (fun k_ hk => hk.1.2))))) (Reps.one (show Kd.FK (Kd.slice 9 Kd.string) _ _ y107 [.slice Ao44 y107.length co44] from (Kd.FK_slice_mk (Kd.R_reads' (Kd.R_mono (ok' := (fun k_ => some k_ ≠ (v102 : Value).ownBlock)) (HO109.out) (fun k_ hk => hk.1.2))).2.1 (Kd.R_F (Kd.R_mono (ok' := (fun k_ => some k_ ≠ (v102 : Value).ownBlock)) (Kd.R_drewN HO109.out _) (fun k_ hk => hk.1.2))))) (Reps.none _ _)))); intro v111 w45 ho46 hb hg_ hnew_; clear hg_ hnew_; (first | rw [← Ny110.out] at ho46 | (simp only [Int.reduceToNat] at ho46; rw [← Ny110.out] at ho46)); have n0_ := Aside0.mk (Kd.R_below (by (with_reducible repeat (first | apply Kd.R_alloc | apply Kd.R_drewN | apply Kd.R_drew)); exact HO103.out) hb); have n1_ := Aside0.mk (Kd.N_lower ho46 (below_size (by repeat (first | (with_reducible first | exact HB.out | apply below_alloc | apply pw_below_drewN | apply below_drew1) | exact HB.out)))); have n2_ := Aside0.mk (below_step (by repeat (first | (with_reducible first | exact HB.out | apply below_alloc | apply pw_below_drewN | apply below_drew1) | exact HB.out)) hb); clear HO103; clear HB; clear HO106; clear HO109; have HO103 := n0_; have HO112 := n1_; have HB := n2_; clear n0_ n1_ n2_; clear hb ho46; obtain ⟨Ao47, co47, eo47⟩ := Kd.R_slice HO103.out; subst eo47; obtain ⟨Ao48, co48, eo48⟩ := Kd.N_slice HO112.out; subst eo48) | ((with_reducible refine gate_callee (f := 25) rfl ?_); refine goesL_ (some 11) rfl rfl Try.func25 (by kernel_rfl) rfl #[.slice Ao47 y101.length co47, .slice Ao48 y110.length co48] rfl (by (try simp only [List.map_toArray, List.map_cons, List.map_nil]); first | done | rfl | (simp only [List.length_drop, List.length_take]; rfl)) ?_; (with_reducible refine (table_Table.calls _ _ y101 _ _ y110 t113 t114 _ ?side1 ?side2 ?side3 ?side4 A1.out).mono ?_); (case side1 => repeat (first | exact (Kd.R_reads' HO103.out).2.2 | (with_reducible refine Kd.C_alloc ?_ _) | (with_reducible refine Kd.C_drewN ?_ _) | (with_reducible refine Kd.C_drew ?_))); (case side2 => exact (Kd.R_reads' HO103.out).2.1); (case side3 => repeat (first | exact (Kd.N_reads' HO112.out).2.2 | (with_reducible refine Kd.C_alloc ?_ _) | (with_reducible refine Kd.C_drewN ?_ _) | (with_reducible refine Kd.C_drew ?_))); (case side4 => exact (Kd.N_reads' HO112.out).2.1); rintro e w49 ⟨v115, rfl, ho0, hb⟩; refine ⟨_, rfl, ?_⟩; have n0_ := Aside0.mk (Kd.R_below (by (with_reducible repeat (first | apply Kd.R_alloc | apply Kd.R_drewN | apply Kd.R_drew)); exact HO103.out) hb); have n1_ := Aside0.mk (Kd.N_elder' (by (with_reducible repeat (first | apply Kd.N_alloc | apply Kd.N_drewN | apply Kd.N_drew)); exact HO112.out) (Kd.R_base ho0) hb); have n2_ := Aside0.mk (Kd.R_lower ho0 (below_size (by repeat (first | (with_reducible first | exact HB.out | apply below_alloc | apply pw_below_drewN | apply below_drew1) | exact HB.out)))); have n3_ := Aside0.mk (below_step (by repeat (first | (with_reducible first | exact HB.out | apply below_alloc | apply pw_below_drewN | apply below_drew1) | exact HB.out)) hb); clear HO103; clear HO112; clear HB; have HO103 := n0_; have HO112 := n1_; have HO116 := n2_; have HB := n3_; clear n0_ n1_ n2_ n3_; (try clear hb); (try clear hb2); (try clear hk); (try clear hi); (try clear ho0)) | ((with_reducible refine gate_callee (f := 25) rfl ?_); refine goesL_ (some 15) rfl rfl Try.func25 (by kernel_rfl) rfl #[.slice none 0 0, .slice none 0 0] rfl (by (try simp only [List.map_toArray, List.map_cons, List.map_nil]); first | done | rfl | (simp only [List.length_drop, List.length_take]; rfl)) ?_; (refine (table_Table.calls _ _ ([] : List ByteArray) _ _ ([] : List (List ByteArray)) t117 t118 _ ?side1 ?side2 ?side3 ?side4 A2.out).mono ?_); (case side1 => exact Kd.C_nil _ _); (case side2 => exact Nat.le_refl _); (case side3 => exact Kd.C_nil _ _); (case side4 => exact Nat.le_refl _); rintro e w50 ⟨v119, rfl, ho0, hb⟩; refine ⟨_, rfl, ?_⟩; have n0_ := Aside0.mk (Kd.R_below (by (with_reducible repeat (first | apply Kd.R_alloc | apply Kd.R_drewN | apply Kd.R_drew)); exact HO103.out) hb); have n1_ := Aside0.mk (Kd.N_elder' (by (with_reducible repeat (first | apply Kd.N_alloc | apply Kd.N_drewN | apply Kd.N_drew)); exact HO112.out) (Kd.R_base ho0) hb); have n2_ := Aside0.mk (Kd.R_elder' (by (with_reducible repeat (first | apply Kd.R_alloc | apply Kd.R_drewN | apply Kd.R_drew)); exact HO116.out) (Kd.R_base ho0) hb); have n3_ := Aside0.mk (Kd.R_lower (Kd.R_new' ho0 (Kd.R_lt (by (with_reducible repeat (first | apply Kd.R_alloc | apply Kd.R_drewN | apply Kd.R_drew)); exact HO116.out))) (below_size (by repeat (first | (with_reducible first | exact HB.out | apply below_alloc | apply pw_below_drewN | apply below_drew1) | exact HB.out)))); have n4_ := Aside0.mk (below_step (by repeat (first | (with_reducible first | exact HB.out | apply below_alloc | apply pw_below_drewN | apply below_drew1) | exact HB.out)) hb); clear HO103; clear HO112; clear HO116; clear HB; have HO103 := n0_; have HO112 := n1_; have HO116 := n2_; have HO120 := n3_; have HB := n4_; clear n0_ n1_ n2_ n3_ n4_; (try clear hb); (try clear hb2); (try clear hk); (try clear hi); (try clear ho0); obtain ⟨Ao51, co51, eo51⟩ := Kd.R_slice HO116.out; subst eo51) | ((with_reducible refine gate_callee (f := 28) rfl ?_); refine goesL_ (some 19) rfl rfl Try.func28 (by kernel_rfl) rfl #[.slice Ao51 t113.length co51, .int .i64 0] rfl (by (try simp only [List.map_toArray, List.map_cons, List.map_nil]); first | done | rfl | (simp only [List.length_drop, List.length_take]; rfl)) ?_; (with_reducible refine (table_Column.calls _ _ t113 0 t121 _ ?side1 ?side2 A3.out).mono ?_); (case side1 => repeat (first | exact (Kd.R_reads' HO116.out).2.2 | (with_reducible refine Kd.C_alloc ?_ _) | (with_reducible refine Kd.C_drewN ?_ _) | (with_reducible refine Kd.C_drew ?_))); (case side2 => exact (Kd.R_reads' HO116.out).2.1); rintro e w52 ⟨v122, rfl, ho0, hb⟩; refine ⟨_, rfl, ?_⟩; have n0_ := Aside0.mk (Kd.R_elder' (by (with_reducible repeat (first | apply Kd.R_alloc | apply Kd.R_drewN | apply Kd.R_drew)); exact HO103.out) (Kd.R_base ho0) hb); have n1_ := Aside0.mk (Kd.N_elder' (by (with_reducible repeat (first | apply Kd.N_alloc | apply Kd.N_drewN | apply Kd.N_drew)); exact HO112.out) (Kd.R_base ho0) hb); have n2_ := Aside0.mk (Kd.R_below (by (with_reducible repeat (first | apply Kd.R_alloc | apply Kd.R_drewN | apply Kd.R_drew)); exact HO116.out) hb); have n3_ := Aside0.mk (Kd.R_below (by (with_reducible repeat (first | apply Kd.R_alloc | apply Kd.R_drewN | apply Kd.R_drew)); exact HO120.out) hb); have n4_ := Aside0.mk (Kd.R_lower (Kd.R_new' ho0 (Kd.R_lt (by (with_reducible repeat (first | apply Kd.R_alloc | apply Kd.R_drewN | apply Kd.R_drew)); exact HO103.out))) (below_size (by repeat (first | (with_reducible first | exact HB.out | apply below_alloc | apply pw_below_drewN | apply below_drew1) | exact HB.out)))); have n5_ := Aside0.mk (below_step (by repeat (first | (with_reducible first | exact HB.out | apply below_alloc | apply pw_below_drewN | apply below_drew1) | exact HB.out)) hb); clear HO103; clear HO112; clear HO116; clear HO120; clear HB; have HO103 := n0_; have HO112 := n1_; have HO116 := n2_; have HO120 := n3_; have HO123 := n4_; have HB := n5_; clear n0_ n1_ n2_ n3_ n4_ n5_; (try clear hb); (try clear hb2); (try clear hk); (try clear hi); (try clear ho0); have p124 : 0 ≤ (0 : Int) := (by omega); have q124 : 0 < (t113.length : Int) := of_decide_eq_true (by first | (with_reducible assumption) | assumption); obtain ⟨ad124, e124, hx124_0, hx124_1⟩ := at_T37 (Kd.R_reads' HO116.out).2.2 0 p124 q124; cases e124; have qi124 : (0 < t113.length) = True := eq_true (by omega); (try rw [show ((0 : Int)).toNat = 0 from rfl] at hx124_0); (try rw [show 0 * 2 = 0 from rfl] at hx124_0); (try rw [Addr.add_zero'] at hx124_0); (try rw [show ((0 : Int)).toNat = 0 from rfl] at hx124_1); (try rw [show 0 * 2 = 0 from rfl] at hx124_1); (try rw [Addr.add_zero'] at hx124_1); replace p124 := eq_true p124; replace q124 := eq_true q124; have p125 : 0 ≤ (1 : Int) := (by omega); have q125 : 1 < (t113.length : Int) := of_decide_eq_true (by first | (with_reducible assumption) | assumption); obtain ⟨ad125, e125, hx125_0, hx125_1⟩ := at_T37 (Kd.R_reads' HO116.out).2.2 1 p125 q125; obtain rfl : ad124 = ad125 := (by injection e125); (try simp only [show (1 : Int).toNat = 1 from rfl, Nat.reduceMul, Nat.reduceEqDiff, Go.Addr.add, ↓reduceIte] at hx125_0); (try simp only [show (1 : Int).toNat = 1 from rfl, Nat.reduceMul, Nat.reduceEqDiff, Go.Addr.add, ↓reduceIte] at hx125_1); have qi125 : (1 < t113.length) = True := eq_true (by omega); (try rw [show ((1 : Int)).toNat = 1 from rfl] at hx125_0); (try rw [show 1 * 2 = 2 from rfl] at hx125_0); (try rw [show ((1 : Int)).toNat = 1 from rfl] at hx125_1); (try rw [show 1 * 2 = 2 from rfl] at hx125_1); replace p125 := eq_true p125; replace q125 := eq_true q125; have p126 : 0 ≤ (2 : Int) := (by omega); have q126 : 2 < (t113.length : Int) := of_decide_eq_true (by first | (with_reducible assumption) | assumption); obtain ⟨ad126, e126, hx126_0, hx126_1⟩ := at_T37 (Kd.R_reads' HO116.out).2.2 2 p126 q126; obtain rfl : ad124 = ad126 := (by injection e126); (try simp only [show (2 : Int).toNat = 2 from rfl, Nat.reduceMul, Nat.reduceEqDiff, Go.Addr.add, ↓reduceIte] at hx126_0); (try simp only [show (2 : Int).toNat = 2 from rfl, Nat.reduceMul, Nat.reduceEqDiff, Go.Addr.add, ↓reduceIte] at hx126_1); have qi126 : (2 < t113.length) = True := eq_true (by omega); (try rw [show ((2 : Int)).toNat = 2 from rfl] at hx126_0); (try rw [show 2 * 2 = 4 from rfl] at hx126_0); (try rw [show ((2 : Int)).toNat = 2 from rfl] at hx126_1); (try rw [show 2 * 2 = 4 from rfl] at hx126_1); replace p126 := eq_true p126; replace q126 := eq_true q126; have p127 : 0 ≤ (1 : Int) := (by omega); have q127 : 1 < (t113.length : Int) := of_decide_eq_true (by first | (with_reducible assumption) | assumption); obtain ⟨ad127, e127, hx127_0, hx127_1⟩ := at_T37 (Kd.R_reads' HO116.out).2.2 1 p127 q127; obtain rfl : ad124 = ad127 := (by injection e127); (try simp only [show (1 : Int).toNat = 1 from rfl, Nat.reduceMul, Nat.reduceEqDiff, Go.Addr.add, ↓reduceIte] at hx127_0); (try simp only [show (1 : Int).toNat = 1 from rfl, Nat.reduceMul, Nat.reduceEqDiff, Go.Addr.add, ↓reduceIte] at hx127_1); have qi127 : (1 < t113.length) = True := eq_true (by omega); (try rw [show ((1 : Int)).toNat = 1 from rfl] at hx127_0); (try rw [show 1 * 2 = 2 from rfl] at hx127_0); (try rw [show ((1 : Int)).toNat = 1 from rfl] at hx127_1); (try rw [show 1 * 2 = 2 from rfl] at hx127_1); replace p127 := eq_true p127; replace q127 := eq_true q127) | (go_at_call 32; (with_reducible refine (table_Lost.calls ((rd_T37 t113 1).f0) ((rd_T37 t113 1).f1) true _ A13.out).mono ?_); rintro e w53 ⟨rfl, hb⟩; have n0_ := Aside0.mk (Kd.R_below (by (with_reducible repeat (first | apply Kd.R_alloc | apply Kd.R_drewN | apply Kd.R_drew)); exact HO103.out) hb); have n1_ := Aside0.mk (Kd.N_below (by (with_reducible repeat (first | apply Kd.N_alloc | apply Kd.N_drewN | apply Kd.N_drew)); exact HO112.out) hb); have n2_ := Aside0.mk (Kd.R_below (by (with_reducible repeat (first | apply Kd.R_alloc | apply Kd.R_drewN | apply Kd.R_drew)); exact HO116.out) hb); have n3_ := Aside0.mk (Kd.R_below (by (with_reducible repeat (first | apply Kd.R_alloc | apply Kd.R_drewN | apply Kd.R_drew)); exact HO120.out) hb); have n4_ := Aside0.mk (Kd.R_below (by (with_reducible repeat (first | apply Kd.R_alloc | apply Kd.R_drewN | apply Kd.R_drew)); exact HO123.out) hb); have n5_ := Aside0.mk (below_step (by repeat (first | (with_reducible first | exact HB.out | apply below_alloc | apply pw_below_drewN | apply below_drew1) | exact HB.out)) hb); clear HO103; clear HO112; clear HO116; clear HO120; clear HO123; clear HB; have HO103 := n0_; have HO112 := n1_; have HO116 := n2_; have HO120 := n3_; have HO123 := n4_; have HB := n5_; clear n0_ n1_ n2_ n3_ n4_ n5_; (try clear hb); (try clear hb2); (try clear hk); (try clear hi); have p129 : 0 ≤ (2 : Int) := (by omega); have q129 : 2 < (t113.length : Int) := of_decide_eq_true (by first | (with_reducible assumption) | assumption); obtain ⟨ad129, e129, hx129_0, hx129_1⟩ := at_T37 (Kd.R_reads' HO116.out).2.2 2 p129 q129; obtain rfl : ad124 = ad129 := (by injection e129); (try simp only [show (2 : Int).toNat = 2 from rfl, Nat.reduceMul, Nat.reduceEqDiff, Go.Addr.add, ↓reduceIte] at hx129_0); (try simp only [show (2 : Int).toNat = 2 from rfl, Nat.reduceMul, Nat.reduceEqDiff, Go.Addr.add, ↓reduceIte] at hx129_1); have qi129 : (2 < t113.length) = True := eq_true (by omega); (try rw [show ((2 : Int)).toNat = 2 from rfl] at hx129_0); (try rw [show 2 * 2 = 4 from rfl] at hx129_0); (try rw [show ((2 : Int)).toNat = 2 from rfl] at hx129_1); (try rw [show 2 * 2 = 4 from rfl] at hx129_1); replace p129 := eq_true p129; replace q129 := eq_true q129) | (go_at_call 32; (with_reducible refine (table_Lost.calls ((rd_T37 t113 2).f0) ((rd_T37 t113 2).f1) false _ A15.out).mono ?_); rintro e w54 ⟨rfl, hb⟩; have n0_ := Aside0.mk (Kd.R_below (by (with_reducible repeat (first | apply Kd.R_alloc | apply Kd.R_drewN | apply Kd.R_drew)); exact HO103.out) hb); have n1_ := Aside0.mk (Kd.N_below (by (with_reducible repeat (first | apply Kd.N_alloc | apply Kd.N_drewN | apply Kd.N_drew)); exact HO112.out) hb); have n2_ := Aside0.mk (Kd.R_below (by (with_reducible repeat (first | apply Kd.R_alloc | apply Kd.R_drewN | apply Kd.R_drew)); exact HO116.out) hb); have n3_ := Aside0.mk (Kd.R_below (by (with_reducible repeat (first | apply Kd.R_alloc | apply Kd.R_drewN | apply Kd.R_drew)); exact HO120.out) hb); have n4_ := Aside0.mk (Kd.R_below (by (with_reducible repeat (first | apply Kd.R_alloc | apply Kd.R_drewN | apply Kd.R_drew)); exact HO123.out) hb); have n5_ := Aside0.mk (below_step (by repeat (first | (with_reducible first | exact HB.out | apply below_alloc | apply pw_below_drewN | apply below_drew1) | exact HB.out)) hb); clear HO103; clear HO112; clear HO116; clear HO120; clear HO123; clear HB; have HO103 := n0_; have HO112 := n1_; have HO116 := n2_; have HO120 := n3_; have HO123 := n4_; have HB := n5_; clear n0_ n1_ n2_ n3_ n4_ n5_; (try clear hb); (try clear hb2); (try clear hk); (try clear hi); obtain ⟨Ao55, co55, eo55⟩ := Kd.R_slice HO123.out; subst eo55) | (go_at_call 29; (with_reducible refine (table_Result.calls _ _ t113 t131 _ ?side1 ?side2 A36.out).mono ?_); (case side1 => repeat (first | exact (Kd.R_reads' HO116.out).2.2 | (with_reducible refine Kd.C_alloc ?_ _) | (with_reducible refine Kd.C_drewN ?_ _) | (with_reducible refine Kd.C_drew ?_))); (case side2 => exact (Kd.R_reads' HO116.out).2.1); rintro e w56 ⟨v132, rfl, ho0, hb⟩; have n0_ := Aside0.mk (Kd.R_elder' (by (with_reducible repeat (first | apply Kd.R_alloc | apply Kd.R_drewN | apply Kd.R_drew)); exact HO103.out) (Kd.R_base ho0) hb); have n1_ := Aside0.mk (Kd.N_elder' (by (with_reducible repeat (first | apply Kd.N_alloc | apply Kd.N_drewN | apply Kd.N_drew)); exact HO112.out) (Kd.R_base ho0) hb); have n2_ := Aside0.mk (Kd.R_below (by (with_reducible repeat (first | apply Kd.R_alloc | apply Kd.R_drewN | apply Kd.R_drew)); exact HO116.out) hb); have n3_ := Aside0.mk (Kd.R_below (by (with_reducible repeat (first | apply Kd.R_alloc | apply Kd.R_drewN | apply Kd.R_drew)); exact HO120.out) hb); have n4_ := Aside0.mk (Kd.R_elder' (by (with_reducible repeat (first | apply Kd.R_alloc | apply Kd.R_drewN | apply Kd.R_drew)); exact HO123.out) (Kd.R_base ho0) hb); have n5_ := Aside0.mk (Kd.R_lower (Kd.R_new' (Kd.R_new' ho0 (Kd.R_lt (by (with_reducible repeat (first | apply Kd.R_alloc | apply Kd.R_drewN | apply Kd.R_drew)); exact HO103.out))) (Kd.R_lt (by (with_reducible repeat (first | apply Kd.R_alloc | apply Kd.R_drewN | apply Kd.R_drew)); exact HO123.out))) (below_size (by repeat (first | (with_reducible first | exact HB.out | apply below_alloc | apply pw_below_drewN | apply below_drew1) | exact HB.out)))); have n6_ := Aside0.mk (below_step (by repeat (first | (with_reducible first | exact HB.out | apply below_alloc | apply pw_below_drewN | apply below_drew1) | exact HB.out)) hb); clear HO103; clear HO112; clear HO116; clear HO120; clear HO123; clear HB; have HO103 := n0_; have HO112 := n1_; have HO116 := n2_; have HO120 := n3_; have HO123 := n4_; have HO133 := n5_; have HB := n6_; clear n0_ n1_ n2_ n3_ n4_ n5_ n6_; (try clear hb); (try clear hb2); (try clear hk); (try clear hi); (try clear ho0); obtain ⟨Ao57, co57, eo57⟩ := Kd.R_slice HO133.out; subst eo57))
                          go_ret
                          exact ⟨by first | rfl | (simp [errW_none, errW_some] <;> rfl) | (simp [*, errW_none, errW_some] <;> rfl), by repeat (first | (with_reducible first | exact HB.out | apply below_alloc | apply pw_below_drewN | apply below_drew1) | exact HB.out)⟩
                        · rw [if_neg c35] at H
                          have c35b0 : ((t121.length : Int) == 2) = false := beq_eq_false_iff_ne.mpr c35
                          have c35b1 : ((t121.length : Int) != 2) = true := bne_iff_ne.mpr c35
                          exact absurd (Option.some.inj H) (by rw [hrt_]; decide)
                    · replace c14 := Bool.eq_false_iff.mpr c14
                      subst c14
                      have H1 : (some false) = some r := by rw [if_neg (show ¬ (false = true) by decide)] at H; exact H
                      clear H
                      have H := H1
                      clear H1
                      exact absurd (Option.some.inj H) (by rw [hrt_]; decide)
                  · rw [if_neg c12] at H
                    have c12b0 : (((rd_T37 t113 2).f0).toList == ([43, 32] : List UInt8)) = false := beq_eq_false_iff_ne.mpr c12
                    have c12b1 : (((rd_T37 t113 2).f0).toList != ([43, 32] : List UInt8)) = true := bne_iff_ne.mpr c12
                    exact absurd (Option.some.inj H) (by rw [hrt_]; decide)
                · rw [if_neg c11] at H
                  exact absurd H (by simp)
              · rw [if_neg c10] at H
                have c10b0 : ((((rd_T37 t113 1).f0).toList) == ([45, 32] : List UInt8) && ((((rd_T37 t113 1).f1).toList) == ([98, 10] : List UInt8))) = false := by simpa using c10
                (try (have c10b1 : decide ((((rd_T37 t113 1).f0).toList) = ([45, 32] : List UInt8) && ((((rd_T37 t113 1).f1).toList) == ([98, 10] : List UInt8))) = false := by simpa using c10))
                (try (have c10b2 : ((((rd_T37 t113 1).f0).toList) == ([45, 32] : List UInt8) && ((((rd_T37 t113 1).f1).toList) == ([98, 10] : List UInt8))) = false := by simpa using c10))
                (try (have c10b3 : ¬ ((((rd_T37 t113 1).f0).toList) = ([45, 32] : List UInt8) && ((((rd_T37 t113 1).f1).toList) == ([98, 10] : List UInt8))) := by simpa using c10))
                clear c10
                exact absurd (Option.some.inj H) (by rw [hrt_]; decide)
            · rw [if_neg c9] at H
              exact absurd H (by simp)
          · rw [if_neg c8] at H
            have c8b0 : (((rd_T37 t113 0).f0).toList == ([32, 32] : List UInt8)) = false := beq_eq_false_iff_ne.mpr c8
            have c8b1 : (((rd_T37 t113 0).f0).toList != ([32, 32] : List UInt8)) = true := bne_iff_ne.mpr c8
            exact absurd (Option.some.inj H) (by rw [hrt_]; decide)
        · rw [if_neg c7] at H
          exact absurd H (by simp)
      · rw [if_neg c6] at H
        have c6b0 : ((t113.length : Int) == 3) = false := beq_eq_false_iff_ne.mpr c6
        have c6b1 : ((t113.length : Int) != 3) = true := bne_iff_ne.mpr c6
        exact absurd (Option.some.inj H) (by rw [hrt_]; decide)
    · rw [if_neg c5] at H
      have c5b0 : (t118 == 1) = false := beq_eq_false_iff_ne.mpr c5
      have c5b1 : (t118 != 1) = true := bne_iff_ne.mpr c5
      exact absurd (Option.some.inj H) (by rw [hrt_]; decide)
  · rw [if_neg c4] at H
    have c4b0 : (t114 == 0) = false := beq_eq_false_iff_ne.mpr c4
    have c4b1 : (t114 != 0) = true := bne_iff_ne.mpr c4
    exact absurd (Option.some.inj H) (by rw [hrt_]; decide)
end Go.Proofs.Ytnlekganlliikaa.X
-- part XTabMath
namespace Go.Proofs.Ytnlekganlliikaa.X
open Go.RowKit Go.Proofs.YtnlekganlliikaaW.PrintWords Go.Proofs.YtnlekganlliikaaW.PrintLast Go.Proofs.YtnlekganlliikaaW.PrintMore
set_option linter.unusedVariables false
set_option linter.unusedSimpArgs false
/-- Where the next pairing is. -/
def nextM : List Int → Nat → Nat
  | [], n => n
  | m :: t, n => if 0 ≤ m then m.toNat else nextM t n
/-- Where the lines ahead of a line begin, if any may be there. -/
def fromM (ms : List Int) : Nat → Option Nat
  | 0 => some 0
  | q + 1 => if 0 ≤ ms.getD q (-1) then some ((ms.getD q (-1)).toNat + 1) else none
/-- The parent's lines ahead of a line of the result. -/
def segL (p : List ByteArray) (ms : List Int) (q : Nat) : List ByteArray :=
  match fromM ms q with
  | none => []
  | some a => (p.take (nextM (ms.drop q) p.length)).drop a
def updSeg (N col : Nat) (p : List ByteArray) (ms : List Int) (lost : Nat → Option (List (List ByteArray))) (q : Nat) : Option (List (List ByteArray)) :=
  if segL p ms q = [] then lost q else some (((lost q).getD (List.replicate N [])).set col (segL p ms q))
theorem Fits.next {list : List ByteArray} : ∀ {ms : List Int} {ss : List ByteArray} {lo : Nat}, Fits list ms ss lo → lo ≤ nextM ms list.length ∧ nextM ms list.length ≤ list.length
  | [], [], lo, h => ⟨h, Nat.le_refl _⟩
  | [], _ :: _, lo, h => h.elim
  | m :: ms, s :: ss, lo, h => by
    rcases h with ⟨rfl, h⟩ | ⟨k, rfl, h1, h2, h3⟩
    · rw [nextM, if_neg (by decide)]; exact h.next
    · have := (List.getElem?_eq_some_iff.1 h2).1
      rw [nextM, if_pos (by omega), Int.toNat_natCast]; omega
  | _ :: _, [], lo, h => h.elim
theorem Fits.at_ {list : List ByteArray} : ∀ {ms : List Int} {ss : List ByteArray} {lo : Nat}, Fits list ms ss lo → ∀ q, q < ms.length → (ms.getD q (-1) = -1) ∨ ∃ k : Nat, ms.getD q (-1) = (k : Int) ∧ list[k]? = ss[q]? ∧ k < list.length ∧ k + 1 ≤ nextM (ms.drop (q + 1)) list.length
  | [], ss, lo, h, q, hq => absurd hq (by simp)
  | m :: ms, s :: ss, lo, h, 0, hq => by
    rcases h with ⟨rfl, h⟩ | ⟨k, rfl, h1, h2, h3⟩
    · exact .inl rfl
    · exact .inr ⟨k, rfl, by rw [h2]; rfl, (List.getElem?_eq_some_iff.1 h2).1, h3.next.1⟩
  | m :: ms, s :: ss, lo, h, q + 1, hq => by
    have hq' : q < ms.length := by simpa using hq
    rcases h with ⟨rfl, h⟩ | ⟨k, rfl, h1, h2, h3⟩
    · exact h.at_ q hq'
    · exact h3.at_ q hq'
  | _ :: _, [], lo, h, q, hq => h.elim
theorem Fits.drop_next {list : List ByteArray} : ∀ {ms : List Int} {ss : List ByteArray} {lo : Nat}, Fits list ms ss lo → ∀ q, nextM (ms.drop q) list.length ≤ list.length
  | ms, ss, lo, h, 0 => h.next.2
  | [], ss, lo, h, q + 1 => Nat.le_refl _
  | m :: ms, s :: ss, lo, h, q + 1 => by
    rcases h with ⟨rfl, h⟩ | ⟨k, rfl, h1, h2, h3⟩
    · exact h.drop_next q
    · exact h3.drop_next q
  | _ :: _, [], lo, h, q + 1 => h.elim
theorem Fits.from_le {list ss : List ByteArray} {ms : List Int} (h : Fits list ms ss 0) {q a : Nat} (e : fromM ms q = some a) : a ≤ nextM (ms.drop q) list.length := by
  cases q with
  | zero => obtain rfl := (Option.some.inj e).symm; exact Nat.zero_le _
  | succ q =>
    rw [fromM] at e
    split at e
    · rename_i h0
      have hq : q < ms.length := by
        apply Classical.byContradiction
        intro hn
        rw [List.getD_eq_getElem?_getD, List.getElem?_eq_none (by omega)] at h0
        simp at h0
      rcases h.at_ q hq with h1 | ⟨k, h1, _, _, h2⟩
      · rw [h1] at h0; omega
      · rw [h1] at e; have := Option.some.inj e; simp at this; omega
    · cases e
theorem nextM_skip {ms : List Int} {L : Nat} (last : Nat) : ∀ (n : Nat), last + n ≤ ms.length → (∀ j, last ≤ j → j < last + n → ms.getD j (-1) < 0) → nextM (ms.drop last) L = nextM (ms.drop (last + n)) L
  | 0, _, _ => rfl
  | n + 1, hl, hn => by
    rw [nextM_skip last n (by omega) (fun j h1 h2 => hn j h1 (by omega)), dropCons (i := last + n) (by omega), nextM]
    have := hn (last + n) (by omega) (by omega)
    rw [show ms.getD (last + n) (-1) = ms[last + n] by simp [List.getD_eq_getElem?_getD, List.getElem?_eq_getElem (show last + n < ms.length by omega)]] at this
    rw [if_neg (by omega)]; rfl
theorem fromM_none {ms : List Int} {last i q : Nat} (h : ∀ j, last ≤ j → j < i → ms.getD j (-1) < 0) (h1 : last < q) (h2 : q ≤ i ∨ ms.length ≤ i) : fromM ms q = none := by
  obtain ⟨q, rfl⟩ : ∃ q', q = q' + 1 := ⟨q - 1, by omega⟩
  rw [fromM]
  have : ms.getD q (-1) < 0 := by
    by_cases hq : q < i
    · exact h q (by omega) hq
    · rw [List.getD_eq_getElem?_getD, List.getElem?_eq_none (by omega)]; decide
  rw [if_neg (by omega)]
theorem segL_none {p : List ByteArray} {ms : List Int} {q : Nat} (h : fromM ms q = none) : segL p ms q = [] := by rw [segL, h]
theorem loseAt_eq {N col : Nat} {p : List ByteArray} {ms : List Int} {lost : Nat → Option (List (List ByteArray))} {at_ last : Nat} (hF : nextM (ms.drop last) p.length ≤ p.length) (ha : fromM ms last = some at_) (q : Nat) :
    loseAt N col p lost (nextM (ms.drop last) p.length) at_ last q = if q = last then updSeg N col p ms lost q else lost q := by
  have hs : segL p ms last = (p.take (nextM (ms.drop last) p.length)).drop at_ := by rw [segL, ha]
  by_cases hq : q = last
  · subst hq
    rw [if_pos rfl, updSeg, hs, loseAt]
    by_cases h : at_ < nextM (ms.drop q) p.length
    · have hne : ¬ (p.take (nextM (ms.drop q) p.length)).drop at_ = [] := by rw [List.drop_eq_nil_iff, List.length_take]; omega
      rw [if_pos h, if_neg hne]
      exact if_pos rfl
    · rw [if_neg h, if_pos (List.drop_eq_nil_iff.2 (by simp; omega))]
  · rw [if_neg hq, loseAt]
    split
    · simp [hq]
    · rfl
theorem pairGo_eq {N col : Nat} {p ss : List ByteArray} {ms : List Int} (hF : Fits p ms ss 0) : ∀ (t : List Int) (i at_ last : Nat) (lost : Nat → Option (List (List ByteArray))), ms.drop i = t → last ≤ i → i ≤ ms.length → fromM ms last = some at_ → (∀ j, last ≤ j → j < i → ms.getD j (-1) < 0) →
    ∀ q, pairGo N col p t i at_ last lost q = if q < last then lost q else updSeg N col p ms lost q
  | [], i, at_, last, lost, hd, hli, hi, ha, hn, q => by
    have hlen : ms.length ≤ i := List.drop_eq_nil_iff.1 hd
    have hnx : nextM (ms.drop last) p.length = p.length := by
      rw [nextM_skip last (i - last) (by omega) (fun j a b => hn j a (by omega)), show last + (i - last) = i by omega, hd]; rfl
    have := loseAt_eq (N := N) (col := col) (lost := lost) (by rw [hnx]; exact Nat.le_refl _) ha q
    rw [hnx] at this
    rw [pairGo, this]
    by_cases h1 : q < last
    · rw [if_neg (by omega), if_pos h1]
    · rw [if_neg h1]
      by_cases h2 : q = last
      · rw [if_pos h2]
      · rw [if_neg h2, updSeg, if_pos (segL_none (fromM_none hn (by omega) (.inr hlen)))]
  | m :: t, i, at_, last, lost, hd, hli, hi, ha, hn, q => by
    have hil : i < ms.length := by
      apply Classical.byContradiction
      intro h
      rw [List.drop_of_length_le (by omega)] at hd
      cases hd
    rw [dropCons hil] at hd
    have hm : ms[i] = m := (List.cons.inj hd).1
    have ht : ms.drop (i + 1) = t := (List.cons.inj hd).2
    have hg : ms.getD i (-1) = m := by rw [← hm]; simp [List.getD_eq_getElem?_getD, List.getElem?_eq_getElem hil]
    rw [pairGo]
    by_cases h0 : 0 ≤ m
    · rw [if_pos h0, pairGo_eq hF t (i + 1) (m.toNat + 1) (i + 1) _ ht (Nat.le_refl _) hil (by rw [fromM, hg, if_pos h0]) (fun j a b => by omega) q]
      have hnx : nextM (ms.drop last) p.length = m.toNat := by
        rw [nextM_skip last (i - last) (by omega) (fun j a b => hn j a (by omega)), show last + (i - last) = i by omega, dropCons hil, nextM, hm, if_pos h0]
      have := loseAt_eq (N := N) (col := col) (lost := lost) (hF.drop_next last) ha
      rw [hnx] at this
      by_cases h1 : q < last
      · rw [if_pos (by omega), if_pos h1, this q, if_neg (by omega)]
      · rw [if_neg h1]
        by_cases h2 : q = last
        · rw [if_pos (by omega), this q, if_pos h2]
        · by_cases h3 : q < i + 1
          · rw [if_pos h3, this q, if_neg h2, updSeg, if_pos (segL_none (fromM_none hn (by omega) (.inl (by omega))))]
          · rw [if_neg h3, updSeg, updSeg, this q, if_neg h2]
    · rw [if_neg h0, pairGo_eq hF t (i + 1) at_ last lost ht (by omega) hil ha (fun j a b => by
        by_cases hj : j = i
        · subst hj; rw [hg]; omega
        · exact hn j a (by omega)) q]
/-- The parents' lines ahead of a line of the result. -/
def segsL (result : List ByteArray) (ps : List (List ByteArray)) (q : Nat) : List (List ByteArray) := ps.map (fun p => segL p (matchS result p) q)
theorem segsL_length (result : List ByteArray) (ps : List (List ByteArray)) (q : Nat) : (segsL result ps q).length = ps.length := List.length_map ..
theorem empties {ls : List (List ByteArray)} (h : ls.all (·.isEmpty) = true) : ls = List.replicate ls.length [] := by
  induction ls with
  | nil => rfl
  | cons l t ih =>
    simp only [List.all_cons, Bool.and_eq_true, List.isEmpty_iff] at h
    rw [List.length_cons, List.replicate_succ, h.1, ← ih h.2]
theorem lostK_eq (result : List ByteArray) (parents : List (List ByteArray)) (q : Nat) : ∀ k, k ≤ parents.length → lostK result parents k q = if (segsL result (parents.take k) q).all (·.isEmpty) = true then none else some (segsL result (parents.take k) q ++ List.replicate (parents.length - k) [])
  | 0, _ => by
    rw [List.take_zero]; rfl
  | k + 1, hk => by
    have hkl : k < parents.length := by omega
    have ih := lostK_eq result parents q k (by omega)
    have hpg : pairGo parents.length k (parents.getD k []) (matchS result (parents.getD k [])) 0 0 0 (lostK result parents k) q = _ := pairGo_eq (matchS_fits result _) _ 0 0 0 _ rfl (Nat.le_refl _) (Nat.zero_le _) rfl (fun j a b => by omega) q
    rw [lostK_succ _ _ hkl, hpg, if_neg (by omega), updSeg]
    have hp : parents.getD k [] = parents[k] := by simp [hkl]
    have hs : segsL result (parents.take (k + 1)) q = segsL result (parents.take k) q ++ [segL (parents.getD k []) (matchS result (parents.getD k [])) q] := by
      rw [← List.take_append_getElem hkl, segsL, List.map_append, hp]; rfl
    rw [hs]
    obtain ⟨S, hS⟩ : ∃ S, segsL result (parents.take k) q = S := ⟨_, rfl⟩
    obtain ⟨s, hs1⟩ : ∃ s, segL (parents.getD k []) (matchS result (parents.getD k [])) q = s := ⟨_, rfl⟩
    have hSl : S.length = k := by rw [← hS, segsL_length, List.length_take]; omega
    rw [hS] at ih
    rw [hS, hs1]
    have hrep : List.replicate (parents.length - k) ([] : List ByteArray) = [] :: List.replicate (parents.length - (k + 1)) [] := by
      rw [show parents.length - k = (parents.length - (k + 1)) + 1 by omega, List.replicate_succ]
    by_cases e : s = []
    · subst e
      rw [if_pos rfl, ih, List.all_append]
      have : ([[]] : List (List ByteArray)).all (·.isEmpty) = true := rfl
      rw [this, Bool.and_true, hrep]
      simp
    · have hne : (S ++ [s]).all (·.isEmpty) = false := by
        rw [List.all_append]
        have : ([s] : List (List ByteArray)).all (·.isEmpty) = false := by
          cases s with
          | nil => exact absurd rfl e
          | cons a b => rfl
        rw [this, Bool.and_false]
      rw [if_neg e, hne, if_neg (by decide)]
      have hget : (lostK result parents k q).getD (List.replicate parents.length []) = S ++ List.replicate (parents.length - k) [] := by
        rw [ih]
        by_cases ha : S.all (·.isEmpty) = true
        · rw [if_pos ha, Option.getD_none]
          have := empties ha
          rw [hSl] at this
          rw [this, List.replicate_append_replicate]
          congr 1; omega
        · rw [if_neg ha]; rfl
      rw [hget, hrep, List.set_append, if_neg (by omega), hSl, Nat.sub_self, List.set_cons_zero, List.append_assoc]; rfl
theorem lostAll_eq (result : List ByteArray) (parents : List (List ByteArray)) (q : Nat) : lostAll result parents q = if (segsL result parents q).all (·.isEmpty) = true then none else some (segsL result parents q) := by
  have := lostK_eq result parents q parents.length (Nat.le_refl _)
  rw [List.take_length, Nat.sub_self, List.replicate_zero, List.append_nil, lostK, List.take_length] at this
  exact this
theorem rowsOf_empties {ls : List (List ByteArray)} (h : ls.all (·.isEmpty) = true) : rowsOf ls = [] := by
  have h1 := rowsOf_le ls
  have h2 : sumLen ls = 0 := by
    rw [empties h]; simp [sumLen]
  rw [h2] at h1
  exact List.length_eq_zero_iff.1 (by omega)
theorem lostRows_eq (result : List ByteArray) (parents : List (List ByteArray)) (q : Nat) : lostRows (lostAll result parents q) = (rowsOf (segsL result parents q)).map (rowOut parents.length) := by
  rw [lostAll_eq]
  by_cases h : (segsL result parents q).all (·.isEmpty) = true
  · rw [if_pos h, lostRows, rowsOf_empties h]; rfl
  · rw [if_neg h, lostRows, segsL_length]
def marksU (result : List ByteArray) (ps : List (List ByteArray)) (k : Nat) : List UInt8 := ps.map (fun p => if 0 ≤ (matchS result p).getD k 0 then 32 else 43)
theorem markS_bs (m : Int) : markS m = bs [if 0 ≤ m then 32 else 43] := by
  unfold markS
  split <;> rfl
theorem marksK_eq (result : List ByteArray) (parents : List (List ByteArray)) (q : Nat) (hq : q < result.length) : ∀ k, k ≤ parents.length → (marksK result parents k).getD (q + 1) ByteArray.empty = bs (marksU result (parents.take k) q)
  | 0, _ => by
    show ((⟨#[32]⟩ :: List.replicate result.length ByteArray.empty).getD (q + 1) ByteArray.empty) = _
    rw [List.getD_cons_succ]
    simp [List.getD_eq_getElem?_getD, List.getElem?_replicate, hq, marksU]
    rfl
  | k + 1, hk => by
    have hkl : k < parents.length := by omega
    have hp : parents.getD k [] = parents[k] := by simp [hkl]
    have hM := (marksK_ok result parents k (by omega)).1
    have ih := marksK_eq result parents q hq k (by omega)
    rw [marksK_succ _ _ hkl, marksF, List.getD_cons_succ]
    have hml := matchS_length result (parents.getD k [])
    have h1 : q < (marksK result parents k).tail.length := by simp [hM]; exact hq
    have h2 : q < (matchS result (parents.getD k [])).length := by rw [hml]; exact hq
    have h3 : (marksK result parents k).tail[q] = (marksK result parents k).getD (q + 1) ByteArray.empty := by
      rw [List.getElem_tail]; simp [List.getD_eq_getElem?_getD, List.getElem?_eq_getElem (show q + 1 < (marksK result parents k).length by omega)]
    have h4 : (matchS result (parents.getD k [])).getD q 0 = (matchS result (parents.getD k []))[q] := by rw [List.getD_eq_getElem?_getD, List.getElem?_eq_getElem h2]; rfl
    rw [List.getD_eq_getElem?_getD, List.getElem?_zipWith, List.getElem?_eq_getElem h1, List.getElem?_eq_getElem h2]
    show (marksK result parents k).tail[q] ++ markS (matchS result (parents.getD k []))[q] = _
    rw [h3, ih, markS_bs, bs_append, ← List.take_append_getElem hkl, marksU, marksU, List.map_append, ← hp, ← h4]; rfl
theorem marksAll_eq (result : List ByteArray) (parents : List (List ByteArray)) (q : Nat) (hq : q < result.length) : (marksAll result parents).getD (q + 1) ByteArray.empty = bs (marksU result parents q) := by
  have := marksK_eq result parents q hq parents.length (Nat.le_refl _)
  rwa [marksK, List.take_length] at this
/-- The rows ahead of a line of the result. -/
def segRows (result : List ByteArray) (parents : List (List ByteArray)) (q : Nat) : List ApiRow := (rowsOf (segsL result parents q)).map (rowOut parents.length)
theorem tableRows_succ (result : List ByteArray) (parents : List (List ByteArray)) (k : Nat) (hk : k < result.length) : tableRows result parents (k + 1) = tableRows result parents k ++ segRows result parents k ++ [⟨bs (marksU result parents k), result[k]⟩] := by
  rw [tableRows, lostRows_eq, marksAll_eq _ _ _ hk, show result.getD k ByteArray.empty = result[k] by simp [hk]]; rfl
theorem tableAll_eq (result : List ByteArray) (parents : List (List ByteArray)) : tableAll result parents = tableRows result parents result.length ++ segRows result parents result.length := by
  rw [tableAll, lostRows_eq]; rfl
/-- What stands ahead of a line is part of the parent. -/
theorem segL_length_le (p : List ByteArray) (ms : List Int) (q : Nat) : (segL p ms q).length ≤ p.length := by
  unfold segL
  split
  · simp
  · simp; omega
end Go.Proofs.Ytnlekganlliikaa.X
-- part XTabRows
namespace Go.Proofs.Ytnlekganlliikaa.X
open Go.RowKit Go.Proofs.YtnlekganlliikaaW.PrintWords Go.Proofs.YtnlekganlliikaaW.PrintLast Go.Proofs.YtnlekganlliikaaW.PrintMore
set_option linter.unusedVariables false
set_option linter.unusedSimpArgs false
theorem awake20 : sennitlaw20_awake.f = some true := by decide +kernel
theorem index45_cases (u : List UInt8) : (¬ (45 : UInt8) ∈ u ∧ Lib.indexByte u 45 = -1) ∨ ((45 : UInt8) ∈ u ∧ 0 ≤ Lib.indexByte u 45) := by
  induction u with
  | nil => left; simp [Lib.indexByte]
  | cons x xs ih =>
    simp only [Lib.indexByte, List.mem_cons]
    by_cases e : x = 45
    · right; simp [e]
    · have e' : (x == 45) = false := by simp [e]
      have e2 : ¬ (45 : UInt8) = x := fun h => e h.symm
      rw [e']
      rcases ih with ⟨h1, h2⟩ | ⟨h1, h2⟩
      · left; simp [h1, h2, e2]
      · right
        refine ⟨.inr h1, ?_⟩
        rw [if_neg (by decide), if_neg (by simp; omega)]
        omega
theorem index45 (u : List UInt8) : decide (0 ≤ Lib.indexByte u 45) = decide ((45 : UInt8) ∈ u) := by
  rw [decide_eq_decide]
  rcases index45_cases u with ⟨h1, h2⟩ | ⟨h1, h2⟩
  · simp [h1, h2]
  · simp [h1, h2]
theorem byte45 (c : UInt8) : ((c.toNat : Int) = 45) ↔ c = 45 := by
  constructor
  · intro h
    have : c.toNat = 45 := by omega
    exact UInt8.toNat_inj.1 this
  · rintro rfl; rfl
theorem lostB_mem (s : ByteArray) : lostB s = decide ((45 : UInt8) ∈ s.data.toList) := index45 _
section
variable {R : List ApiRow}
end
end Go.Proofs.Ytnlekganlliikaa.X
-- part XTabTells
namespace Go.Proofs.Ytnlekganlliikaa.X
open Go.RowKit Go.Proofs.YtnlekganlliikaaW.PrintWords Go.Proofs.YtnlekganlliikaaW.PrintLast Go.Proofs.YtnlekganlliikaaW.PrintMore
set_option linter.unusedVariables false
set_option linter.unusedSimpArgs false
theorem byte10 (c : UInt8) : ((c.toNat : Int) = 10) ↔ c = 10 := by
  constructor
  · intro h
    have : c.toNat = 10 := by omega
    exact UInt8.toNat_inj.1 this
  · rintro rfl; rfl
theorem index10 (u : List UInt8) : (¬ (10 : UInt8) ∈ u ∧ Lib.indexByte u 10 = -1) ∨ (∃ a b, u = a ++ 10 :: b ∧ ¬ (10 : UInt8) ∈ a ∧ Lib.indexByte u 10 = (a.length : Int)) := by
  induction u with
  | nil => left; simp [Lib.indexByte]
  | cons x xs ih =>
    simp only [Lib.indexByte]
    by_cases e : x = 10
    · right; exact ⟨[], xs, by rw [e]; rfl, by simp, by simp [e]⟩
    · have e' : (x == 10) = false := by simp [e]
      have e2 : ¬ (10 : UInt8) = x := fun h => e h.symm
      rw [e']
      rcases ih with ⟨h1, h2⟩ | ⟨a, b, h0, h1, h2⟩
      · left; simp [h1, h2, e2]
      · right
        refine ⟨x :: a, b, by rw [h0]; rfl, by simp [e2, h1], ?_⟩
        rw [if_neg (by decide), if_neg (by simp; omega), h2]
        simp
theorem closed_eq (s : ByteArray) : lineClosed s = (decide (s.data.toList.count 10 = 1) && decide (s.data.toList.getLast? = some 10)) := by
  have hs := sizeLen s
  rw [lineClosed, ← Bool.decide_and, decide_eq_decide]
  rcases index10 s.data.toList with ⟨h1, h2⟩ | ⟨a, b, h0, h1, h2⟩
  · rw [h2, List.count_eq_zero.2 h1]; omega
  · rw [h2, hs, h0, List.count_append, List.count_eq_zero.2 h1, List.count_cons_self, List.length_append, List.length_cons]
    cases b with
    | nil => simp
    | cons y t =>
      rw [List.getLast?_append, List.getLast?_cons_cons]
      constructor
      · intro ⟨_, h⟩; rw [List.length_cons] at h; omega
      · rintro ⟨h3, h4⟩
        have h5 : (y :: t).getLast? = some 10 := by
          cases hg : (y :: t).getLast? with
          | none => simp at hg
          | some z => rw [hg] at h4; exact h4
        have := List.count_pos_iff.2 (List.mem_of_getLast? h5)
        omega
theorem open_eq (s : ByteArray) : lineOpen s = (decide (0 < s.size) && decide (s.data.toList.count 10 = 0)) := by
  rw [lineOpen, ← Bool.decide_and, decide_eq_decide, List.count_eq_zero]
  rcases index10 s.data.toList with ⟨h1, h2⟩ | ⟨a, b, h0, h1, h2⟩
  · rw [h2]; simp [h1]
  · rw [h2]
    have : (10 : UInt8) ∈ s.data.toList := by rw [h0]; simp
    constructor
    · rintro ⟨h, _⟩; omega
    · rintro ⟨_, h⟩; exact absurd this h
theorem ref_feeds_l0 (s : ByteArray) (hs : s.size ≤ 1000000000) : ∀ (r i k : Nat) (n : Nat), i + r = s.size → n ≤ i → r + 1 ≤ k → sennitref01_feeds.l0 k s (n : Int) (i : Int) = some (((n + (s.data.toList.drop i).count 10 : Nat) : Int))
  | 0, i, k + 1, n, hi, hn, _ => by
    rw [sennitref01_feeds.l0, if_neg (by omega), List.drop_of_length_le (by rw [← sizeLen]; omega)]
    simp
  | r + 1, i, k + 1, n, hi, hn, hk => by
    have hd := dropCons (l := s.data.toList) (i := i) (by rw [← sizeLen]; omega)
    rw [sennitref01_feeds.l0, if_pos (by omega), if_pos (by omega), btN (by omega), hd]
    obtain ⟨c, hc⟩ : ∃ c, s.data.toList[i]'(by rw [← sizeLen]; omega) = c := ⟨_, rfl⟩
    rw [hc, gw1 (i := i) (by omega), gw1 (i := n) (by omega)]
    by_cases e : c = 10
    · rw [if_pos ((byte10 c).2 e), e, List.count_cons_self, ref_feeds_l0 s hs r (i + 1) k (n + 1) (by omega) (by omega) (by omega)]
      congr 1; omega
    · rw [if_neg (fun h => e ((byte10 c).1 h)), List.count_cons_of_ne e, ref_feeds_l0 s hs r (i + 1) k n (by omega) (by omega) (by omega)]
theorem ref_feeds (s : ByteArray) (hs : s.size ≤ 1000000000) (k : Nat) (hk : s.size + 1 ≤ k) : sennitref01_feeds.f k s = some ((s.data.toList.count 10 : Nat) : Int) := by
  have := ref_feeds_l0 s hs s.size 0 k 0 (by omega) (by omega) hk
  simpa [sennitref01_feeds.f] using this
theorem last_idx (s : ByteArray) (h : 0 < s.size) : s.data.toList.getLast? = some (s.data.toList[s.size - 1]'(by rw [← sizeLen]; omega)) := by
  rw [List.getLast?_eq_getElem?, List.getElem?_eq_getElem (by simp at h ⊢; omega)]
  simp
theorem ref_line (s : ByteArray) (hs : s.size ≤ 1000000000) (k : Nat) (hk : s.size + 1 ≤ k) : sennitref01_Line.f k s = some (lineClosed s) := by
  rw [sennitref01_Line.f, ref_feeds s hs k hk, Option.bind_some, closed_eq]
  by_cases h1 : s.data.toList.count 10 = 1
  · have hp : 0 < s.size := by
      rw [sizeLen]
      exact List.length_pos_iff.2 (fun e => by rw [e] at h1; simp at h1)
    have ew : wrap64 ((s.size : Int) - 1) = ((s.size - 1 : Nat) : Int) := by rw [gw (by omega) (by omega)]; omega
    rw [if_pos (by omega), ew, if_pos (by omega), if_pos (by omega), btN (by omega), last_idx s hp]
    congr 1
    rw [decide_eq_true h1, Bool.true_and, Bool.eq_iff_iff]
    simp only [beq_iff_eq, decide_eq_true_eq, Option.some.injEq, byte10]
  · rw [if_neg (by omega), decide_eq_false h1]
    rfl
theorem ref_may_l0 (l : List ByteArray) (hl : l.length ≤ 1000000) (M : Nat) (hM : M ≤ 1000000) (hs : ∀ s ∈ l, s.size ≤ M) : ∀ (r i k : Nat), i + r = l.length → r + M + 2 ≤ k → sennitref01_May.l0 k l (i : Int) = some (mayL (l.drop i))
  | 0, i, k + 1, hi, _ => by
    rw [sennitref01_May.l0, if_neg (by omega), List.drop_of_length_le (by omega)]
    rfl
  | r + 1, i, k + 1, hi, hk => by
    have hil : i < l.length := by omega
    have hd := dropCons hil
    have hz : l[i].size ≤ M := hs _ (List.getElem_mem _)
    have ih := ref_may_l0 l hl M hM hs r (i + 1) k (by omega) (by omega)
    have hln := ref_line l[i] (by omega) k (by omega)
    have hfd := ref_feeds l[i] (by omega) k (by omega)
    rw [sennitref01_May.l0, if_pos (by omega), rdOfN hil, gw1 (by omega), gw (x := (l.length : Int) - 1) (by omega) (by omega), hln, hfd, ih, hd]
    have hm : mayL (l[i] :: l.drop (i + 1)) = ((lineClosed l[i] || ((decide (0 < l[i].size) && decide (l[i].data.toList.count 10 = 0)) && (l.drop (i + 1)).isEmpty)) && mayL (l.drop (i + 1))) := by
      rw [mayL, open_eq]
    have hnil : ((l.drop (i + 1)).isEmpty = true) ↔ ((i : Int) = (l.length : Int) - 1) := by
      rw [List.isEmpty_iff, List.drop_eq_nil_iff]; omega
    rw [hm]
    obtain ⟨m, hm⟩ : ∃ m, mayL (l.drop (i + 1)) = m := ⟨_, rfl⟩
    obtain ⟨c, hc⟩ : ∃ c, lineClosed l[i] = c := ⟨_, rfl⟩
    rw [hm, hc]
    simp only [Option.bind_some]
    clear hm hln hfd ih hd hc
    by_cases e1 : (i : Int) = (l.length : Int) - 1
    · rw [if_pos e1, if_pos (by omega), hnil.2 e1, Bool.and_true]
      by_cases e2 : 0 < l[i].size
      · rw [if_pos (by omega), decide_eq_true e2, Bool.true_and]
        by_cases e3 : l[i].data.toList.count 10 = 0
        · rw [if_pos (by omega), decide_eq_true e3]
          cases c <;> cases m <;> rfl
        · rw [if_neg (by omega), decide_eq_false e3]
          cases c <;> cases m <;> rfl
      · rw [if_neg (by omega), decide_eq_false e2]
        cases c <;> cases m <;> rfl
    · have : (l.drop (i + 1)).isEmpty = false := by
        cases hh : (l.drop (i + 1)).isEmpty
        · rfl
        · exact absurd (hnil.1 hh) e1
      rw [if_neg e1, if_pos (by omega), this, Bool.and_false]
      cases c <;> cases m <;> rfl
theorem ref_May01 (l : List ByteArray) (hl : l.length ≤ 1000000) (hs : ∀ s ∈ l, s.size ≤ 1000000) : Gives (fun k => sennitref01_May.f k l) (mayL l) :=
  ⟨l.length + 1000000 + 2, fun k hk => by
    have := ref_may_l0 l hl 1000000 (Nat.le_refl _) hs l.length 0 k (by omega) hk
    simpa [sennitref01_May.f] using this⟩

def FewT (result : List ByteArray) (ls : List (List ByteArray)) : Prop := (result.length ≤ 16 ∧ ∀ s ∈ result, s.size ≤ 100) ∧ ls.length ≤ 6 ∧ ∀ l ∈ ls, l.length ≤ 16 ∧ ∀ s ∈ l, s.size ≤ 100
theorem ref_Few20 (result : List ByteArray) (ls : List (List ByteArray)) : ∃ b, Gives (fun k => sennitref20_Few.f k result ls) b ∧ (b = true → FewT result ls) := by
  have he : Gives (fun k => sennitref01_Few.f k result 16) (fewB result 16) := ref_few01 result 16 (by omega)
  have hlast : ∀ i : Nat, (i = ls.length ∨ i = 7) → (∀ l ∈ ls.take i, fewB l 16 = true) → ∃ b, Gives (fun k => sennitref20_Few.j1 k result ls (i : Int) false) b ∧ (b = true → fewB result 16 = true ∧ ls.length ≤ 6 ∧ ∀ l ∈ ls, fewB l 16 = true) := by
    intro i hi hP
    refine ⟨fewB result 16 && decide ((ls.length : Int) ≤ 6), Gives.last he fun k hk => ?_, fun h => ?_⟩
    · show sennitref20_Few.j1 (k + 1) result ls (i : Int) false = _
      rw [sennitref20_Few.j1, if_neg (by decide), hk, Option.bind_some]
      cases fewB result 16 <;> rfl
    · rw [Bool.and_eq_true] at h
      have h6 := of_decide_eq_true h.2
      rw [List.take_of_length_le (by omega)] at hP
      exact ⟨h.1, by omega, hP⟩
  have hmain : ∀ (r i : Nat), i + r = min ls.length 7 → (∀ l ∈ ls.take i, fewB l 16 = true) → ∃ b, Gives (fun k => sennitref20_Few.l0 k result ls (i : Int)) b ∧ (b = true → fewB result 16 = true ∧ ls.length ≤ 6 ∧ ∀ l ∈ ls, fewB l 16 = true) := by
    intro r
    induction r with
    | zero =>
      intro i hi hP
      obtain ⟨b, h1, h2⟩ := hlast i (by omega) hP
      refine ⟨b, h1.step fun k => ?_, h2⟩
      show sennitref20_Few.l0 (k + 1) result ls (i : Int) = _
      rw [sennitref20_Few.l0]
      by_cases h : i < ls.length
      · rw [if_pos (by omega), decide_eq_false (by omega)]
      · rw [if_neg (by omega)]
    | succ r ih =>
      intro i hi hP
      have hil : i < ls.length := by omega
      have e : rd_L1 ls (i : Int) = ls[i] := getN hil
      have hf := ref_few01 ls[i] 16 (by omega)
      have h0 : ∀ b, Gives (fun k => sennitref20_Few.j1 k result ls (i : Int) true) b → Gives (fun k => sennitref20_Few.l0 k result ls (i : Int)) b := fun b hb => hb.step fun k => by
        show sennitref20_Few.l0 (k + 1) result ls (i : Int) = _
        rw [sennitref20_Few.l0, if_pos (by omega), decide_eq_true (by omega)]
      cases hb : fewB ls[i] 16 with
      | true =>
        obtain ⟨b, h1, h2⟩ := ih (i + 1) (by omega) (fun l hl => by
          rw [← List.take_append_getElem hil] at hl
          rcases List.mem_append.1 hl with hl | hl
          · exact hP l hl
          · rw [List.mem_singleton.1 hl]; exact hb)
        refine ⟨b, h0 b (Gives.call hf h1 fun k hk => ?_), h2⟩
        show sennitref20_Few.j1 (k + 1) result ls (i : Int) true = _
        have hk' : sennitref01_Few.f k ls[i] 16 = some true := by rw [← hb]; exact hk
        rw [sennitref20_Few.j1, if_pos rfl, if_pos (by omega), if_pos (by omega), e, hk', Option.bind_some, if_pos rfl, gw1 (by omega)]
      | false =>
        refine ⟨false, h0 false (Gives.last hf fun k hk => ?_), fun h => by cases h⟩
        show sennitref20_Few.j1 (k + 1) result ls (i : Int) true = _
        have hk' : sennitref01_Few.f k ls[i] 16 = some false := by rw [← hb]; exact hk
        rw [sennitref20_Few.j1, if_pos rfl, if_pos (by omega), if_pos (by omega), e, hk', Option.bind_some, if_neg (by decide)]
  obtain ⟨b, h1, h2⟩ := hmain (min ls.length 7) 0 (by omega) (by simp)
  refine ⟨b, h1.same fun k => rfl, fun h => ?_⟩
  obtain ⟨h3, h4, h5⟩ := h2 h
  exact ⟨of_decide_eq_true h3, h4, fun l hl => of_decide_eq_true (h5 l hl)⟩
section
variable {result : List ByteArray} {ls : List (List ByteArray)}
theorem FewT.sum (h : FewT result ls) : sumLen ls ≤ 96 := by
  have := sumLen_take 16 ls ls.length (fun l hl => (h.2.2 l hl).1)
  rw [List.take_length] at this
  have := h.2.1
  omega
theorem FewT.ok (h : FewT result ls) : tableOk result ls = true := by
  obtain ⟨⟨h1, h2⟩, h3, h4⟩ := h
  have h5 : sumLen ls ≤ 96 := FewT.sum ⟨⟨h1, h2⟩, h3, h4⟩
  rw [tableOk, Bool.and_eq_true, Bool.or_eq_true]
  refine ⟨decide_eq_true ⟨by omega, by omega, ?_⟩, .inr (decide_eq_true (by omega))⟩
  intro l hl
  rcases List.mem_cons.1 hl with rfl | hl
  · exact ⟨by omega, fun s hs => by have := h2 s hs; omega⟩
  · have := (h4 l hl).1
    exact ⟨by omega, fun s hs => by have := (h4 l hl).2 s hs; omega⟩
theorem FewT.table (h : FewT result ls) : table_Table.f result ls = some (tableF result ls) := by rw [table_Table.f, if_pos h.ok]

theorem ref_wrong_l0 (h : ∀ l ∈ ls, l.length ≤ 2000 ∧ ∀ s ∈ l, s.size ≤ 1000000) (hn : ls.length ≤ 1000) : ∀ (r i : Nat) (m : Bool), i + r = ls.length → Gives (fun k => sennitref20_wrong.l0 k ls m false (i : Int)) (if (m && (ls.drop i).all mayL) = true then 0 else 2) := by
  intro r
  induction r with
  | zero =>
    intro i m hi
    refine Gives.of fun k => ?_
    show sennitref20_wrong.l0 (k + 1) ls m false (i : Int) = _
    rw [sennitref20_wrong.l0, if_neg (by omega), List.drop_of_length_le (by omega)]
    cases m <;> rfl
  | succ r ih =>
    intro i m hi
    have hil : i < ls.length := by omega
    have e : rd_L1 ls (i : Int) = ls[i] := getN hil
    have hz := h ls[i] (List.getElem_mem _)
    rw [dropCons hil, List.all_cons]
    cases m with
    | true =>
      have hm := ref_May01 ls[i] (by omega) hz.2
      have := ih (i + 1) (mayL ls[i]) (by omega)
      rw [Bool.true_and]
      refine Gives.call hm this fun k hk => ?_
      show sennitref20_wrong.l0 (k + 1) ls true false (i : Int) = _
      rw [sennitref20_wrong.l0, if_pos (by omega), if_pos rfl, if_pos (by omega), e, hk, Option.bind_some, if_neg (by decide), gw1 (by omega), decide_eq_false (by omega)]
    | false =>
      have := ih (i + 1) false (by omega)
      refine (this.eq rfl).step fun k => ?_
      show sennitref20_wrong.l0 (k + 1) ls false false (i : Int) = _
      rw [sennitref20_wrong.l0, if_pos (by omega), if_neg (by decide), if_neg (by decide), if_pos (by omega), e, gw1 (by omega), decide_eq_false (by omega)]
theorem ref_wrong20 (h : FewT result ls) : Gives (fun k => sennitref20_wrong.f k result ls) (wrongF mayL (result :: ls)) := by
  obtain ⟨⟨h1, h2⟩, h3, h4⟩ := h
  by_cases h0 : ls.length = 0
  · have e : wrongF mayL (result :: ls) = 1 := by rw [wrongF, if_pos (by simp; omega)]
    rw [e]
    refine (Gives.of (f := fun k => sennitref20_wrong.j0 k result ls true) fun k => ?_).same fun k => ?_
    · show sennitref20_wrong.j0 (k + 1) result ls true = _
      rw [sennitref20_wrong.j0, if_pos rfl]
    · show sennitref20_wrong.f k result ls = _
      rw [sennitref20_wrong.f, if_pos (by omega)]
  · have hl : (result :: ls).any longL = false := by
      rw [List.any_eq_false]
      intro l hl
      rcases List.mem_cons.1 hl with rfl | hl
      · simp [longL]; omega
      · have := (h4 l hl).1; simp [longL]; omega
    have e : wrongF mayL (result :: ls) = (if (mayL result && (ls.drop 0).all mayL) = true then 0 else 2) := by
      rw [wrongF, if_neg (by simp; omega), hl, if_neg (show ¬ false = true by decide), List.drop_zero]
      by_cases hm : (mayL result && ls.all mayL) = true
      · rw [if_pos hm, if_neg]
        rw [← List.all_cons (f := mayL)] at hm
        simp only [List.any_eq_true, not_exists, not_and]
        intro x hx hc
        rw [List.all_eq_true.1 hm x hx] at hc; cases hc
      · rw [if_neg hm, if_pos]
        rw [← List.all_cons (f := mayL), List.all_eq_true] at hm
        rw [List.any_eq_true]
        apply Classical.byContradiction
        intro hc
        apply hm
        intro x hx
        cases hmx : mayL x with
        | true => rfl
        | false => exact absurd ⟨x, hx, by rw [hmx]; rfl⟩ hc
    rw [e]
    have hm := ref_May01 result (by omega) (fun s hs => by have := h2 s hs; omega)
    have hw := ref_wrong_l0 (ls := ls) (fun l hl => ⟨by have := (h4 l hl).1; omega, fun s hs => by have := (h4 l hl).2 s hs; omega⟩) (by omega) ls.length 0 (mayL result) (by omega)
    refine (Gives.call hm hw (f := fun k => sennitref20_wrong.j0 k result ls false) fun k hk => ?_).same fun k => ?_
    · show sennitref20_wrong.j0 (k + 1) result ls false = _
      rw [sennitref20_wrong.j0, if_neg (by decide), hk, Option.bind_some, decide_eq_false (by omega)]; rfl
    · show sennitref20_wrong.f k result ls = _
      rw [sennitref20_wrong.f, if_neg (by omega), decide_eq_false (by omega)]
end
section
variable {result : List ByteArray} {ls : List (List ByteArray)}
theorem segRows_len (result : List ByteArray) (ls : List (List ByteArray)) (q : Nat) : (segRows result ls q).length ≤ sumLen ls := by
  rw [segRows, List.length_map]
  refine Nat.le_trans (rowsOf_le _) ?_
  rw [segsL, sumLen, sumLen, List.map_map]
  induction ls with
  | nil => simp
  | cons p t ih =>
    simp only [List.map_cons, List.sum_cons, Function.comp_apply]
    have := segL_length_le p (matchS result p) q
    have := ih
    simp only [Function.comp_def] at this ⊢
    omega
theorem tableRows_len (result : List ByteArray) (ls : List (List ByteArray)) : ∀ q, q ≤ result.length → (tableRows result ls q).length ≤ q * (sumLen ls + 1)
  | 0, _ => by simp [tableRows]
  | q + 1, h => by
    have := tableRows_len result ls q (by omega)
    have h2 := segRows_len result ls q
    rw [tableRows_succ _ _ _ h, List.length_append, List.length_append, List.length_singleton, Nat.succ_mul]
    omega
theorem FewT.rows (h : FewT result ls) {q : Nat} (hq : q ≤ result.length) : (tableRows result ls q).length ≤ 2000 := by
  have h1 := tableRows_len result ls q hq
  have h2 := h.sum
  have h3 := h.1.1
  have : q * (sumLen ls + 1) ≤ 16 * 97 := Nat.mul_le_mul (by omega) (by omega)
  omega
theorem FewT.all (h : FewT result ls) : (tableAll result ls).length ≤ 3000 := by
  rw [tableAll_eq, List.length_append]
  have := h.rows (Nat.le_refl _)
  have := segRows_len result ls result.length
  have := h.sum
  omega
end
end Go.Proofs.Ytnlekganlliikaa.X
-- part XTabCols
namespace Go.Proofs.Ytnlekganlliikaa.X
open Go.RowKit Go.Proofs.YtnlekganlliikaaW.PrintWords Go.Proofs.YtnlekganlliikaaW.PrintLast Go.Proofs.YtnlekganlliikaaW.PrintMore
set_option linter.unusedVariables false
set_option linter.unusedSimpArgs false
theorem byte32 (c : UInt8) : ((c.toNat : Int) = 32) ↔ c = 32 := by
  constructor
  · intro h
    have : c.toNat = 32 := by omega
    exact UInt8.toNat_inj.1 this
  · rintro rfl; rfl
theorem ofB_nat (c : Nat) (s : ByteArray) : ofB (c : Int) s = ((s.data.toList[c]? == some 45) || ((s.data.toList[c]? == some 32) && !lostB s)) := by
  have hs := sizeLen s
  rw [ofB, decide_eq_true (show (0 : Int) ≤ (c : Int) by omega), Bool.true_and]
  by_cases h : c < s.size
  · have hc : c < s.data.toList.length := by omega
    rw [decide_eq_true (show (c : Int) < (s.size : Int) by omega), Bool.true_and, btN h, List.getElem?_eq_getElem hc]
    have e1 : decide (((s.data.toList[c].toNat : Nat) : Int) = 45) = (some s.data.toList[c] == some 45) := by
      rw [Bool.eq_iff_iff, decide_eq_true_eq, byte45]; simp
    have e2 : decide (((s.data.toList[c].toNat : Nat) : Int) = 32) = (some s.data.toList[c] == some 32) := by
      rw [Bool.eq_iff_iff, decide_eq_true_eq, byte32]; simp
    rw [e1, e2]
  · rw [decide_eq_false (show ¬ (c : Int) < (s.size : Int) by omega), List.getElem?_eq_none (by omega)]; rfl
def colF (c : Nat) (R : List ApiRow) : List ByteArray := (R.filter (fun x => ofB (c : Int) x.f0)).map (·.f1)
theorem colF_append (c : Nat) (a b : List ApiRow) : colF c (a ++ b) = colF c a ++ colF c b := by simp [colF]
section
variable {result : List ByteArray} {ls : List (List ByteArray)}
theorem seg_row (hn : ls.length ≤ 16) (q : Nat) : ∀ x ∈ segRows result ls q, x.f0.size = ls.length ∧ (∀ c ∈ x.f0.data.toList, c = 45 ∨ c = 32) ∧ 45 ∈ x.f0.data.toList := by
  have h := rowsOf_cols (segsL result ls q) (by rw [segsL_length]; exact hn)
  rw [segsL_length] at h
  exact rowOut_ok hn h
theorem seg_lost (hn : ls.length ≤ 16) (q : Nat) : ∀ x ∈ segRows result ls q, lostB x.f0 = true := fun x hx => by
  rw [lostB_mem]; exact decide_eq_true (seg_row hn q x hx).2.2
theorem line_mem (q : Nat) : ∀ c ∈ marksU result ls q, c = 32 ∨ c = 43 := by
  intro c hc
  obtain ⟨p, _, rfl⟩ := List.mem_map.1 hc
  split
  · exact .inl rfl
  · exact .inr rfl
theorem line_lost (q : Nat) : lostB (bs (marksU result ls q)) = false := by
  rw [lostB_mem]
  refine decide_eq_false fun h => ?_
  rcases line_mem q 45 (by simpa [bs] using h) with h | h <;> cases h
theorem colF_seg (hn : ls.length ≤ 16) {c : Nat} (hc : c < ls.length) (q : Nat) : colF c (segRows result ls q) = segL ls[c] (matchS result ls[c]) q := by
  have h := rowsOf_cols (segsL result ls q) (by rw [segsL_length]; exact hn)
  rw [segsL_length] at h
  have h1 := column_colT hn hc _ h
  rw [rowsOf_colT _ (by rw [segsL_length]; exact hn) c (by rw [segsL_length]; exact hc)] at h1
  have hg : (segsL result ls q).getD c [] = segL ls[c] (matchS result ls[c]) q := by simp [segsL, hc]
  rw [hg] at h1
  rw [← h1, colF]
  congr 1
  refine List.filter_congr fun x hx => ?_
  rw [ofB_nat, seg_lost hn q x hx]; simp
theorem colF_line {c : Nat} (hc : c < ls.length) (q : Nat) (s : ByteArray) : colF c [⟨bs (marksU result ls q), s⟩] = if 0 ≤ (matchS result ls[c]).getD q 0 then [s] else [] := by
  have hg : (bs (marksU result ls q)).data.toList[c]? = some (if 0 ≤ (matchS result ls[c]).getD q 0 then 32 else 43) := by
    show (marksU result ls q).toArray.toList[c]? = _
    rw [marksU, List.toList_toArray, List.getElem?_map, List.getElem?_eq_getElem hc]; rfl
  have ho : ofB (c : Int) (bs (marksU result ls q)) = decide (0 ≤ (matchS result ls[c]).getD q 0) := by
    rw [ofB_nat, hg, line_lost]
    split
    · rename_i h; rw [decide_eq_true h]; rfl
    · rename_i h; rw [decide_eq_false h]; rfl
  by_cases h : 0 ≤ (matchS result ls[c]).getD q 0
  · rw [if_pos h, colF, List.filter_cons_of_pos (by show ofB (c : Int) (bs (marksU result ls q)) = true; rw [ho]; exact decide_eq_true h)]; rfl
  · rw [if_neg h, colF, List.filter_cons_of_neg (by show ¬ ofB (c : Int) (bs (marksU result ls q)) = true; rw [ho]; simpa using h)]; rfl
/-- How much of the parent has come ahead of a line. -/
def posM (ms : List Int) (L q : Nat) : Nat := match fromM ms q with | some a => a | none => nextM (ms.drop q) L
theorem pos_seg {p ss : List ByteArray} {ms : List Int} (hF : Fits p ms ss 0) (q : Nat) : p.take (posM ms p.length q) ++ segL p ms q = p.take (nextM (ms.drop q) p.length) := by
  rw [posM, segL]
  cases h : fromM ms q with
  | none => simp
  | some a =>
    have := hF.from_le h
    show p.take a ++ (p.take (nextM (ms.drop q) p.length)).drop a = _
    have e : p.take a = (p.take (nextM (ms.drop q) p.length)).take a := by rw [List.take_take, Nat.min_eq_left this]
    rw [e, List.take_append_drop]
theorem pos_line {p ss : List ByteArray} {ms : List Int} (hF : Fits p ms ss 0) {q : Nat} (hq : q < ms.length) (hs : q < ss.length) : p.take (nextM (ms.drop q) p.length) ++ (if 0 ≤ ms.getD q 0 then [ss[q]] else []) = p.take (posM ms p.length (q + 1)) := by
  have hg : ms.getD q (-1) = ms[q] := by rw [List.getD_eq_getElem?_getD, List.getElem?_eq_getElem hq]; rfl
  have hg0 : ms.getD q 0 = ms[q] := by rw [List.getD_eq_getElem?_getD, List.getElem?_eq_getElem hq]; rfl
  have hd : ms.drop q = ms[q] :: ms.drop (q + 1) := dropCons hq
  rcases hF.at_ q hq with h | ⟨k, h, h1, h2, h3⟩
  · have hn : fromM ms (q + 1) = none := by rw [fromM, h, if_neg (by decide)]
    rw [hg] at h
    rw [hg0, h, if_neg (by decide), List.append_nil, posM, hn, hd, h, nextM, if_neg (by decide)]
  · have hn : fromM ms (q + 1) = some (k + 1) := by rw [fromM, h, if_pos (by omega), Int.toNat_natCast]
    rw [hg] at h
    rw [hg0, h, if_pos (by omega), posM, hn, hd, h, nextM, if_pos (by omega), Int.toNat_natCast]
    rw [List.getElem?_eq_getElem hs, List.getElem?_eq_getElem h2] at h1
    rw [← Option.some.inj h1]
    exact List.take_append_getElem h2
theorem colF_rows (hn : ls.length ≤ 16) {c : Nat} (hc : c < ls.length) : ∀ q, q ≤ result.length → colF c (tableRows result ls q) = ls[c].take (posM (matchS result ls[c]) ls[c].length q)
  | 0, _ => by
    have : posM (matchS result ls[c]) ls[c].length 0 = 0 := rfl
    rw [this, List.take_zero]; rfl
  | q + 1, h => by
    rw [tableRows_succ _ _ _ h, colF_append, colF_append, colF_rows hn hc q (by omega), colF_seg hn hc, colF_line hc, pos_seg (matchS_fits result ls[c])]
    exact pos_line (matchS_fits result ls[c]) (by rw [matchS_length]; exact h) h
theorem colF_all (hn : ls.length ≤ 16) {c : Nat} (hc : c < ls.length) : colF c (tableAll result ls) = ls[c] := by
  rw [tableAll_eq, colF_append, colF_rows hn hc _ (Nat.le_refl _), colF_seg hn hc, pos_seg (matchS_fits result ls[c]), List.drop_of_length_le (by rw [matchS_length]; exact Nat.le_refl _)]
  exact List.take_length
theorem rows_size (hn : ls.length ≤ 16) : ∀ q, q ≤ result.length → ∀ x ∈ tableRows result ls q, x.f0.size = ls.length
  | 0, _, x, hx => by cases hx
  | q + 1, h, x, hx => by
    rw [tableRows_succ _ _ _ h] at hx
    rcases List.mem_append.1 hx with hx | hx
    · rcases List.mem_append.1 hx with hx | hx
      · exact rows_size hn q (by omega) x hx
      · exact (seg_row hn q x hx).1
    · rw [List.mem_singleton.1 hx]
      show (bs (marksU result ls q)).size = _
      rw [bs_size, marksU, List.length_map]
theorem all_size (hn : ls.length ≤ 16) : ∀ x ∈ tableAll result ls, x.f0.size = ls.length := by
  intro x hx
  rw [tableAll_eq] at hx
  rcases List.mem_append.1 hx with hx | hx
  · exact rows_size hn _ (Nat.le_refl _) x hx
  · exact (seg_row hn _ x hx).1
theorem ref_May20 (result : List ByteArray) (ls : List (List ByteArray)) : ∃ b, Gives (fun k => sennitref20_May.f k result ls) b ∧ (b = true → FewT result ls ∧ wrongF mayL (result :: ls) = 0) := by
  obtain ⟨b, h1, h2⟩ := ref_Few20 result ls
  cases b with
  | false =>
    refine ⟨false, Gives.last0 h1 fun k hk => ?_, fun h => by cases h⟩
    show sennitref20_May.f k result ls = _
    rw [sennitref20_May.f, hk, Option.bind_some, if_neg (by decide)]
  | true =>
    have hF := h2 rfl
    refine ⟨wrongF mayL (result :: ls) == 0, Gives.call0 h1 (Gives.last0 (ref_wrong20 hF) (f := fun k => (sennitref20_wrong.f k result ls).bind fun t => some (t == 0)) fun k hk => ?_) fun k hk => ?_, fun h => ⟨hF, by simpa using h⟩⟩
    · show Option.bind _ _ = _
      rw [hk, Option.bind_some]
    · show sennitref20_May.f k result ls = _
      rw [sennitref20_May.f, hk, Option.bind_some, if_pos rfl]
end
end Go.Proofs.Ytnlekganlliikaa.X
