/-
  Parts of one proof, one behind the other: XAlign3, XParts, XNormal, XNormal2, XLcs3.
-/
import Derived.Test.YtbbhdbeaikclcaaGreatBFoldGoes5
import Derived.Laws.NewBlocks
import Derived.Deep.WholeRow
import Derived.Deep.MidRow
import Derived.Handy
import Derived.OwnWalk
import Derived.Laws.CopyOwn
import Derived.StillTailTactics
import Derived.Deep.RegionLaw
-- part XAlign3
namespace Go.Proofs.YtbbhdbeaikclcaaGreat.X
open Go.RowKit Go.Proofs.YtbbhdbeaikclcaaGreatW.PrintWords Go.Proofs.YtbbhdbeaikclcaaGreatW.PrintLast Go.Proofs.YtbbhdbeaikclcaaGreatW.PrintMore
set_option linter.unusedVariables false
set_option linter.unusedSimpArgs false
section
variable {P : Program} {ops : Array Oper} {Q : Exit → Act → World → Prop}
/-- A call of a closure, in a drawn region. -/
theorem goesC_ {oi : Oper} {N : Option Tmp} {a : Act} {w : World} {K : Act → World → Prop} {f : FuncId} {fn : Func} {cal : Operand} {asx : Array Operand} {ts : Array TypeId} (hf : P.funcs[f]? = some fn) (hname : (fn.name == "runtime.NumGoroutine") = false) (hb : fn.body.isSome = true) (cap args : Array Value)
    (hw : Region.wanted oi (yielded ops a.tmps) = true) (hN : oi.dst = N) (hop : oi.op = .call { callee := .value cal, args := asx, argTypes := ts }) (hcal : a.eval cal = .func (.func f) #[] cap) (hargs : asx.map a.eval ++ cap = args)
    (h : Calls P f args w fun e w' => ∃ v, e = .returned v ∧ K (a.put N v) w') : if Region.wanted oi (yielded ops a.tmps) = true then Oper.wp P oi a w K Q else K (a.put N undef) w := by
  refine call_ f args hw hN ?_ h
  have he := enters_ hf hname hb args w
  unfold execOp
  simp [hop, resolve, Deferred.ofValue, invoke, hcal, hargs, he]
end
abbrev Chunk := S48
abbrev Spanx := S45
theorem set_keepA {W : World} {b g j : Nat} {o : Obj} (h : W.heap[b]? = some o) (hne : b ≠ g) (v : Value) : (W.setCell ⟨g, j, none⟩ v).heap[b]? = some o := (heap_set_other hne v).trans h
theorem blk_neA {W : World} {a b : Nat} {cs cs' : Array Value} {t t' : TypeId} (h : W.heap[a]? = some (.cells cs t (0, 0))) (k : W.heap[b]? = some (.cells cs' t' (0, 0))) (ht : t ≠ t') : a ≠ b := by
  rintro rfl
  rw [h] at k
  injection k with k
  injection k with _ e _
  exact ht e
/-- The cutter, where it stands. -/
def CutIn (w0 W : World) (B g gs : Nat) (base : Int) (sides : List Int) (out : List Chunk) : Prop :=
  ∃ vo, W.heap[g]? = some (.cells #[.int .i64 base, .slice (some ⟨gs, 0, none⟩) sides.length sides.length, vo] 126 (0, 0)) ∧ B ≤ g ∧
    W.heap[gs]? = some (.cells (sides.map (Value.int .i64)).toArray 3 (0, 0)) ∧ B ≤ gs ∧ Kd.S k48 48 W B (fun _ => True) vo out ∧ Below B w0 W
/-- All blocks stay but two. -/
def AKeeps (g gs : Nat) (W W' : World) : Prop := W.heap.size ≤ W'.heap.size ∧ ∀ k, k < W.heap.size → k ≠ g → k ≠ gs → W'.heap[k]? = W.heap[k]?
theorem AKeeps.refl (g gs : Nat) (W : World) : AKeeps g gs W W := ⟨Nat.le_refl _, fun _ _ _ _ => rfl⟩
theorem AKeeps.below {g gs : Nat} {W W1 W2 : World} (h : AKeeps g gs W W1) (hb : Below W1.heap.size W1 W2) : AKeeps g gs W W2 := ⟨Nat.le_trans h.1 hb.size, fun k hk h1 h2 => (hb.block k (by have := h.1; omega)).trans (h.2 k hk h1 h2)⟩
/-- All blocks of cells stay but two, and those of chunks. -/
def CKeeps (g gs : Nat) (W W' : World) : Prop := W.heap.size ≤ W'.heap.size ∧ ∀ (k : Nat) (cells : Array Value) (q : TypeId) (fr : Nat × Nat), k ≠ g → k ≠ gs → W.heap[k]? = some (.cells cells q fr) → q ≠ 48 → W'.heap[k]? = some (.cells cells q fr)
theorem AKeeps.toC {g gs : Nat} {W W' : World} (h : AKeeps g gs W W') : CKeeps g gs W W' := ⟨h.1, fun k c q fr a b hk _ => (h.2 k (Array.getElem?_eq_some_iff.1 hk).1 a b).trans hk⟩
def spansF (sides ats : List Int) (i : Nat) : List Spanx := (List.zipWith (fun f t => (⟨f, t⟩ : Spanx)) sides ats).take i
def someB (base0 base : Int) (sides ats : List Int) (i : Nat) : Bool := decide (base0 < base) || ((List.zip sides ats).take i).any (fun x => decide (x.1 < x.2))
def cutOut (stable : Bool) (base0 base : Int) (sides ats : List Int) (out : List Chunk) : List Chunk :=
  if someB base0 base sides ats sides.length = true then out ++ [⟨stable, ⟨base0, base⟩, spansF sides ats sides.length⟩] else out
theorem far_keep {W W' : World} {k : Nat} {o : Obj} (h : W.heap[k]? = some o) (hb : Below W.heap.size W W') : W'.heap[k]? = some o := (hb.block k (Array.getElem?_eq_some_iff.1 h).1).trans h
theorem spansF_len {sides ats : List Int} {i : Nat} (h : ats.length = sides.length) (hi : i ≤ sides.length) : (spansF sides ats i).length = i := by
  rw [spansF, List.length_take, List.length_zipWith, h, Nat.min_self]; omega
theorem spansF_succ {sides ats : List Int} {i : Nat} (h : ats.length = sides.length) (hi : i < sides.length) : spansF sides ats (i + 1) = spansF sides ats i ++ [⟨sides.getD i 0, ats.getD i 0⟩] := by
  have hl : i < (List.zipWith (fun f t => (⟨f, t⟩ : Spanx)) sides ats).length := by rw [List.length_zipWith, h, Nat.min_self]; exact hi
  rw [spansF, spansF, ← List.take_append_getElem hl, List.getElem_zipWith, getD_get hi, getD_get (by omega)]
theorem someB_succ {base0 base : Int} {sides ats : List Int} {i : Nat} (h : ats.length = sides.length) (hi : i < sides.length) : someB base0 base sides ats (i + 1) = (someB base0 base sides ats i || decide (sides.getD i 0 < ats.getD i 0)) := by
  have hl : i < (List.zip sides ats).length := by rw [List.length_zip, h, Nat.min_self]; exact hi
  rw [someB, someB, ← List.take_append_getElem hl, List.any_append, List.getElem_zip, getD_get hi, getD_get (by omega), Bool.or_assoc]
  simp
/-- In the loop: so many sides moved on, so many spans laid. -/
def ToI (w0 w W : World) (B g gs : Nat) (stable : Bool) (base0 base : Int) (sides ats : List Int) (vo : Value) (i j : Nat) (vk : Value) : Prop :=
  AKeeps g gs w W ∧ W.heap[g]? = some (.cells #[.int .i64 base0, .slice (some ⟨gs, 0, none⟩) sides.length sides.length, vo] 126 (0, 0)) ∧
    W.heap[gs]? = some (.cells ((ats.take i ++ sides.drop i).map (Value.int .i64)).toArray 3 (0, 0)) ∧
    W.heap[w.heap.size]? = some (.cells #[.bool stable, .int .i64 base0, .int .i64 base, vk] 48 (0, 0)) ∧
    Kd.R k45 45 W w.heap.size (fun _ => True) vk (spansF sides ats j) ∧ Below B w0 W
section
variable {w0 w W W' : World} {B g gs i j : Nat} {stable : Bool} {base0 base : Int} {sides ats : List Int} {vo vk : Value}
theorem ToI.below (h : ToI w0 w W B g gs stable base0 base sides ats vo i j vk) (hb : Below W.heap.size W W') (hB : B ≤ W.heap.size) : ToI w0 w W' B g gs stable base0 base sides ats vo i j vk := by
  obtain ⟨h1, h2, h3, h4, h5, h6⟩ := h
  have keep : ∀ {k : Nat} {o : Obj}, W.heap[k]? = some o → W'.heap[k]? = some o := fun {k o} h => (hb.block k (Array.getElem?_eq_some_iff.1 h).1).trans h
  exact ⟨h1.below hb, keep h2, keep h3, keep h4, Kd.R_below h5 hb, h6.trans (hb.mono hB)⟩
theorem ToI.spans (h : ToI w0 w W B g gs stable base0 base sides ats vo i j vk) : Kd.R k45 45 W w.heap.size (fun _ => True) vk (spansF sides ats j) := h.2.2.2.2.1
theorem ToI.chunk (h : ToI w0 w W B g gs stable base0 base sides ats vo i j vk) : W.heap[w.heap.size]? = some (.cells #[.bool stable, .int .i64 base0, .int .i64 base, vk] 48 (0, 0)) := h.2.2.2.1
theorem ToI.bel (h : ToI w0 w W B g gs stable base0 base sides ats vo i j vk) : Below B w0 W := h.2.2.2.2.2
theorem ToI.keeps (h : ToI w0 w W B g gs stable base0 base sides ats vo i j vk) : AKeeps g gs w W := h.1
theorem ToI.side (h : ToI w0 w W B g gs stable base0 base sides ats vo i j vk) (hi : i < sides.length) (hn : ats.length = sides.length) : W.cell? ⟨gs, i, none⟩ = some (.int .i64 (sides.getD i 0)) := by
  refine cell_blk h.2.2.1 ?_
  have hl : (ats.take i).length = i := by rw [List.length_take]; omega
  have e : (ats.take i ++ sides.drop i)[i]? = some (sides.getD i 0) := by
    rw [List.getElem?_append_right (by omega), hl, Nat.sub_self, List.getElem?_drop, Nat.add_zero, List.getElem?_eq_getElem hi, getD_get hi]
  show ((ats.take i ++ sides.drop i).map (Value.int .i64)).toArray[i]? = _
  rw [List.getElem?_toArray, List.getElem?_map, e]; rfl
theorem ToI.move (h : ToI w0 w W B g gs stable base0 base sides ats vo i j vk) (hi : i < sides.length) (hn : ats.length = sides.length) (hg : g < w.heap.size) (hgs : gs < w.heap.size) (hB : B ≤ gs) (hne : g ≠ gs) :
    ToI w0 w (W.setCell ⟨gs, i, none⟩ (.int .i64 (ats.getD i 0))) B g gs stable base0 base sides ats vo (i + 1) j vk := by
  obtain ⟨h1, h2, h3, h4, h5, h6⟩ := h
  refine ⟨⟨by simpa [World.setCell] using h1.1, fun k hk a b => (heap_set_other b _).trans (h1.2 k hk a b)⟩, set_keepA h2 hne _, ?_, set_keepA h4 (by omega) _, Kd.R_set h5 h3 (by decide) _ _, h6.setCell (p := ⟨gs, i, none⟩) hB _⟩
  rw [heap_set_same h3]
  have hl : (ats.take i).length = i := by rw [List.length_take]; omega
  have e : (ats.take i ++ sides.drop i).set i (ats.getD i 0) = ats.take (i + 1) ++ sides.drop (i + 1) := by
    rw [List.set_append_right _ _ (by omega), hl, Nat.sub_self, dropCons hi, List.set_cons_zero, getD_get (by omega), ← List.take_append_getElem (by omega : i < ats.length), List.append_assoc]; rfl
  rw [← e, List.map_set, ← List.setIfInBounds_toArray]
theorem ToI.lay {W3 : World} {A : Option Addr} {c n : Nat} {v3 : Value} (h : ToI w0 w W B g gs stable base0 base sides ats vo i j (.slice A n c)) (hg3 : W.grownBy W3 (Value.slice A n c).ownBlock) (hb3 : Below w.heap.size W W3) (hr3 : Kd.R k45 45 W3 w.heap.size (fun _ => True) v3 (spansF sides ats (j + 1)))
    (hg : g < w.heap.size) (hgs : gs < w.heap.size) (hB : B ≤ w.heap.size) : ToI w0 w (W3.setCell ⟨w.heap.size, 3, none⟩ v3) B g gs stable base0 base sides ats vo i (j + 1) v3 := by
  obtain ⟨h1, h2, h3, h4, h5, h6⟩ := h
  have k4 := (hg3.block _ (blk_lt h4) (Kd.R_ne h5 h4 (by decide))).trans h4
  refine ⟨⟨by have := hg3.size; have := h1.1; simp [World.setCell]; omega, fun k hk a b => ?_⟩, set_keepA ((hg3.block _ (blk_lt h2) (Kd.R_ne h5 h2 (by decide))).trans h2) (by omega) _, set_keepA ((hg3.block _ (blk_lt h3) (Kd.R_ne h5 h3 (by decide))).trans h3) (by omega) _, by rw [heap_set_same k4]; rfl, Kd.R_set hr3 k4 (by decide) _ _, (h6.trans (hb3.mono hB)).setCell (p := ⟨w.heap.size, 3, none⟩) hB _⟩
  rw [heap_set_other (by omega)]
  refine (hg3.block k (Nat.lt_of_lt_of_le hk h1.1) (fun e => ?_)).trans (h1.2 k hk a b)
  have := Kd.R_base h5 k e.symm
  omega
theorem out_keep {out : List Chunk} (h5 : Kd.S k48 48 w B (fun _ => True) vo out) {cs cs' : Array Value} (h1 : w.heap[g]? = some (.cells cs 126 (0, 0))) (h3 : w.heap[gs]? = some (.cells cs' 3 (0, 0))) (hk : AKeeps g gs w W) : Kd.S k48 48 W B (fun k => k < w.heap.size) vo out := by
  have a := Kd.S_types (Kd.S_types h5 h1 (by decide)) h3 (by decide)
  have b := Kd.S_bound a
  exact Kd.S_mono (Kd.S_step b (fun k hk' hlt => hk.2 k hlt hk'.1.1.2 hk'.1.2)) (fun k hk' => hk'.2.2.1)
theorem cut_done {out : List Chunk} (hg : W.heap[g]? = some (.cells #[.int .i64 base0, .slice (some ⟨gs, 0, none⟩) sides.length sides.length, vo] 126 (0, 0))) (h3 : W.heap[gs]? = some (.cells ((ats.take sides.length ++ sides.drop sides.length).map (Value.int .i64)).toArray 3 (0, 0)))
    (hS : Kd.S k48 48 W B (fun _ => True) vo out) (hb : Below B w0 W) (hBg : B ≤ g) (hBgs : B ≤ gs) (hne : g ≠ gs) (hn : ats.length = sides.length) : CutIn w0 (W.setCell ⟨g, 0, none⟩ (.int .i64 base)) B g gs base ats out := by
  rw [List.take_of_length_le (by omega), List.drop_of_length_le (Nat.le_refl _), List.append_nil] at h3
  exact ⟨vo, by rw [heap_set_same hg, hn]; rfl, hBg, set_keepA h3 (fun e => hne e.symm) _, hBgs, Kd.S_set hS hg (by decide) _ _, hb.setCell (p := ⟨g, 0, none⟩) hBg _⟩
theorem AKeeps.set (h : AKeeps g gs w W) (j : Nat) (v : Value) : AKeeps g gs w (W.setCell ⟨g, j, none⟩ v) := ⟨by simpa [World.setCell] using h.1, fun k hk a b => (heap_set_other a _).trans (h.2 k hk a b)⟩
end
set_option maxRecDepth 100000 in
set_option maxHeartbeats 8000000 in
theorem cut_to_2 (w0 w : World) (B g gs g1 g2 : Nat) (stable : Bool) (base0 base : Int) (sides ats : List Int) (out : List Chunk) (h : CutIn w0 w B g gs base0 sides out) (hB : B = w0.heap.size) (hn : ats.length = sides.length) (hs : sides.length ≤ 1000) (ho : out.length ≤ 100000)
    (hat : ∀ W', AKeeps g gs w W' → ∀ i, i < sides.length → Calls Tryz.prog 75 #[.int .i64 (i : Int), .pointer (some ⟨g1, 0, none⟩), .pointer (some ⟨g2, 0, none⟩)] W' fun e w'' => e = .returned (.int .i64 (ats.getD i 0)) ∧ Drawn0 W' w'') :
    Calls Tryz.prog 74 #[.pointer (some ⟨g, 0, none⟩), .bool stable, .int .i64 base, .func (.func 75) #[] #[.pointer (some ⟨g1, 0, none⟩), .pointer (some ⟨g2, 0, none⟩)]] w fun e w' => e = .returned (.tuple #[]) ∧ Aside0 (CutIn w0 w' B g gs base ats (cutOut stable base0 base sides ats out)) ∧ Aside0 (CKeeps g gs w w') := by
  obtain ⟨vo, h1, h2, h3, h4, h5, h6⟩ := h
  have H1 := Aside0.mk h1
  have H3 := Aside0.mk h3
  have H5 := Aside0.mk h5
  have H6 := Aside0.mk h6
  have HAT := Aside0.mk hat
  have HN := Aside0.mk hn
  have c0 : w.cell? ⟨g, 0, none⟩ = some (.int .i64 base0) := cell_blk h1 rfl
  have c1 : w.cell? ⟨g, 1, none⟩ = some (.slice (some ⟨gs, 0, none⟩) sides.length sides.length) := cell_blk h1 rfl
  have HBW : Aside0 (B ≤ w.heap.size) := ⟨by rw [hB]; exact H6.out.size⟩
  have HGL : Aside0 (g < w.heap.size) := ⟨blk_lt h1⟩
  have HGSL : Aside0 (gs < w.heap.size) := ⟨blk_lt h3⟩
  have HNE : Aside0 (g ≠ gs) := ⟨blk_neA h1 h3 (by decide)⟩
  have c0o : ∀ o, (w.alloc o).cell? ⟨g, 0, none⟩ = some (.int .i64 base0) := fun o => cell_alloc_of c0 o
  have c1o : ∀ o, (w.alloc o).cell? ⟨g, 1, none⟩ = some (.slice (some ⟨gs, 0, none⟩) sides.length sides.length) := fun o => cell_alloc_of c1 o
  clear h1 h3 h5 h6 hat hn
  go_enter Tryz.func74, Tryz.ntmps74
  go_wp2_with fail
  go_loopw [9, 31] (fun s9 s31 wr => ∃ (i : Nat) (vk : Value), s9 = .bool (someB base0 base sides ats i) ∧ s31 = .int .i64 i ∧ i ≤ sides.length ∧ Aside0 (ToI w0 w wr B g gs stable base0 base sides ats vo i i vk)) (fun _ s31 _ => sides.length - (intOf s31).toNat)
  case atStart =>
    have hb : ∀ o, Below w.heap.size w (w.alloc o) := fun o => (Below.refl _ w).alloc (Nat.le_refl _) o
    exact ⟨0, .slice none 0 0, by simp [someB], rfl, Nat.zero_le _, ⟨(AKeeps.refl g gs w).below (hb _), far_keep H1.out (hb _), by simpa using far_keep H3.out (hb _), blk_new _ _, Kd.R_nil _ _ _ _ _, H6.out.trans ((hb _).mono HBW.out)⟩⟩
  case round =>
    obtain ⟨i, vk, rfl, rfl, hi, HI⟩ := hrel
    by_cases hlt : i < sides.length
    · have d1 : decide ((i : Int) < (sides.length : Int)) = true := decide_eq_true (by omega)
      have d2 : decide (i < sides.length) = true := decide_eq_true hlt
      obtain ⟨Ak, ck, hvk⟩ := Kd.R_slice HI.out.spans
      rw [spansF_len HN.out hi] at hvk
      subst hvk
      have xi := HI.out.side hlt HN.out
      have y3 : wr.cell? ⟨w.heap.size, 3, none⟩ = some (.slice Ak i ck) := cell_blk HI.out.chunk rfl
      obtain ⟨f, hf⟩ : ∃ f, sides.getD i 0 = f := ⟨_, rfl⟩
      obtain ⟨t, ht⟩ : ∃ t, ats.getD i 0 = t := ⟨_, rfl⟩
      have hat := HAT.out
      have HFF := Aside0.mk hf
      have HTT := Aside0.mk ht
      rw [hf] at xi
      have HATI : Aside0 (∀ W', AKeeps g gs w W' → Calls Tryz.prog 75 #[.int .i64 (i : Int), .pointer (some ⟨g1, 0, none⟩), .pointer (some ⟨g2, 0, none⟩)] W' fun e w'' => e = .returned (.int .i64 t) ∧ Drawn0 W' w'') := ⟨fun W' hW => by rw [← ht]; exact hat W' hW i hlt⟩
      have hBr : B ≤ wr.heap.size := Nat.le_trans HBW.out HI.out.keeps.1
      clear hat hf ht
      go_wp2
      refine start_ (n := 11) (S := fun w' => w'.cell? ⟨w.heap.size, 3, none⟩ = some (.slice Ak i ck)) (ds := [8, 10]) #[false, false, false, false, false, false, false, false, false, false, false] (by kernel_rfl) rfl rfl (y3) (fun hHeld => ?_)
      refine pure_ (i := 0) (N := some 36) (v := ?_) (a' := ?_) #[true, false, false, false, false, false, false, false, false, false, false] rfl rfl (by kernel_rfl) (fun _ _ _ h => h) (Or.inl ⟨by rfl, ?_⟩) ?_ ?_
      rotate_left
      · intro w'
        go_simp
        with_reducible rfl
      rotate_left
      · simp only [Act.put, List.setIfInBounds_toArray, List.set_cons_zero, List.set_cons_succ, i64_w, i32_w]
        rfl
      refine pure_ (i := 2) (N := some 38) (v := ?_) (a' := ?_) #[true, false, true, false, false, false, false, false, false, false, false] rfl rfl (by kernel_rfl) (fun _ _ _ h => h) (Or.inl ⟨by rfl, ?_⟩) ?_ ?_
      rotate_left
      · intro w'
        go_simp
        with_reducible rfl
      rotate_left
      · simp only [Act.put, List.setIfInBounds_toArray, List.set_cons_zero, List.set_cons_succ, i64_w, i32_w]
        rfl
      refine pure_ (i := 3) (N := some 39) (v := ?_) (a' := ?_) #[true, false, true, true, false, false, false, false, false, false, false] rfl rfl (by kernel_rfl) (fun _ _ _ h => h) (Or.inl ⟨by rfl, ?_⟩) ?_ ?_
      rotate_left
      · intro w'
        go_simp
        with_reducible rfl
      rotate_left
      · simp only [Act.put, List.setIfInBounds_toArray, List.set_cons_zero, List.set_cons_succ, i64_w, i32_w]
        rfl
      refine pure_ (i := 4) (N := some 40) (v := ?_) (a' := ?_) #[true, false, true, true, true, false, false, false, false, false, false] rfl rfl (by kernel_rfl) (fun _ _ _ h => h) (Or.inl ⟨by rfl, ?_⟩) ?_ ?_
      rotate_left
      · intro w'
        go_simp
        with_reducible rfl
      rotate_left
      · simp only [Act.put, List.setIfInBounds_toArray, List.set_cons_zero, List.set_cons_succ, i64_w, i32_w]
        rfl
      refine take_ (i := 1) (N := some 37) (v := ?_) (a' := ?_) #[true, true, true, true, true, false, false, false, false, false, false] rfl rfl (by kernel_rfl) (fun _ _ _ h => h) (Or.inl ⟨by rfl, ?_⟩) hHeld ?_ ?_
      rotate_left
      · intro w' s0
        go_simp
        with_reducible rfl
      rotate_left
      · simp only [Act.put, List.setIfInBounds_toArray, List.set_cons_zero, List.set_cons_succ, i64_w, i32_w]
        rfl
      refine one_ (i := 5) (N := some 41) #[true, true, true, true, true, true, false, false, false, false, false] rfl rfl (by kernel_rfl) (by decide) (fun K hK => ?_)
      refine goesC_ Tryz.func75 (by kernel_rfl) rfl #[.pointer (some ⟨g1, 0, none⟩), .pointer (some ⟨g2, 0, none⟩)] #[.int .i64 (i : Int), .pointer (some ⟨g1, 0, none⟩), .pointer (some ⟨g2, 0, none⟩)] (by rfl) rfl rfl (by rfl) (by simp only [List.map_toArray, List.map_cons, List.map_nil]; rfl) ?_
      with_reducible refine (HATI.out wr.drew (HI.out.keeps.below (Below.refl _ _).drew)).mono ?_
      rintro e w2' ⟨rfl, n2, hn2⟩
      obtain ⟨w2, hw2⟩ : ∃ w2, w2 = w2' := ⟨_, rfl⟩
      rw [← hw2]
      rw [← hw2] at hn2
      clear hw2
      refine ⟨_, rfl, ?_⟩
      have HB2 : Aside0 (Below wr.heap.size wr w2) := ⟨by rw [hn2]; exact pw_below_drewN (Below.refl _ _).drew n2⟩
      clear hn2
      have HI2 := Aside0.mk (HI.out.below HB2.out hBr)
      have y32 : w2.cell? ⟨w.heap.size, 3, none⟩ = some (.slice Ak i ck) := cell_blk HI2.out.chunk rfl
      refine hK.out _ _ (y32) (fun hHeld => ?_)
      clear hK K
      refine norm_ (a' := ?_) ?_ ?_
      rotate_left
      · show Act.put _ (some 41) _ = _
        simp only [Act.put, List.setIfInBounds_toArray, List.set_cons_zero, List.set_cons_succ, i64_w, i32_w]
        rfl
      refine pure_ (i := 6) (N := some 42) (v := ?_) (a' := ?_) #[true, true, true, true, true, true, true, false, false, false, false] rfl rfl (by kernel_rfl) (fun _ _ _ h => h) (Or.inl ⟨by rfl, ?_⟩) ?_ ?_
      rotate_left
      · intro w'
        go_simp
        with_reducible rfl
      rotate_left
      · simp only [Act.put, List.setIfInBounds_toArray, List.set_cons_zero, List.set_cons_succ, i64_w, i32_w]
        rfl
      refine one_ (i := 7) (N := some 43) #[true, true, true, true, true, true, true, true, false, false, false] rfl rfl (by kernel_rfl) (by decide) (fun K hK => ?_)
      refine value_ (w1 := ?_) (v := ?_) (by rfl) rfl ?_ ?_
      rotate_left 2
      · go_simp
        constructor
        · rfl
        · rfl
      refine hK.out _ _ (cell_alloc_of y32 _) (fun hHeld => ?_)
      clear hK K
      refine norm_ (a' := ?_) ?_ ?_
      rotate_left
      · show Act.put _ (some 43) _ = _
        simp only [Act.put, List.setIfInBounds_toArray, List.set_cons_zero, List.set_cons_succ, i64_w, i32_w]
        rfl
      refine last_ (i := 8) (N := some 44) #[true, true, true, true, true, true, true, true, true, false, false] rfl rfl (by kernel_rfl) (by decide) (fun K hK => ?_)
      refine Kd.R_append_step k45 (w0 := w2) w.heap.size (by rfl) (.tmp 37) (.tmp 43) 46 45 (.agg #[.int .i64 0, .int .i64 0]) 16 rfl Tryz.underlying46 info45 rfl (by decide) (by decide) (.slice Ak i ck) (spansF sides ats i) ⟨f, t⟩ [.int .i64 f, .int .i64 t] (fun _ => True) (fun _ => False) rfl rfl (k45_mkM _ _ _ _) (fun _ h => h.elim) (fun _ _ => trivial) ?aO (Below.refl _ _) HI2.out.keeps.1 (by rw [spansF_len HN.out hi]; omega) ?_
      (case aO => exact HI2.out.spans)
      intro v3 w3 hr3 hb3 hg3 hat3
      obtain ⟨A3, c3, hv3⟩ := Kd.R_slice hr3
      subst hv3
      have hgn : some w.heap.size ≠ (Value.slice Ak i ck).ownBlock := Kd.R_ne HI2.out.spans HI2.out.chunk (by decide)
      have g3 := (hg3.block w.heap.size (blk_lt HI2.out.chunk) hgn).trans HI2.out.chunk
      have y33 : w3.cell? ⟨w.heap.size, 3, none⟩ = some (.slice Ak i ck) := cell_blk g3 rfl
      have fr3 : w3.frozen? ⟨w.heap.size, 3, none⟩ = false := frozen_of_row _ _ _ _ _ g3
      have HR3 := Aside0.mk hr3
      have HB3 := Aside0.mk hb3
      have HG3 := Aside0.mk hg3
      have G3 := Aside0.mk g3
      clear hr3 hb3 hg3 g3 hat3 hgn y32
      refine hK.out _ _ ?_
      clear hK K
      refine norm_ (a' := ?_) ?_ ?_
      rotate_left
      · show Act.put _ (some 44) _ = _
        simp only [Act.put, List.setIfInBounds_toArray, List.set_cons_zero, List.set_cons_succ, i64_w, i32_w]
        rfl
      refine pure_ (i := 9) (N := some 45) (v := ?_) (a' := ?_) #[true, true, true, true, true, true, true, true, true, true, false] rfl rfl (by kernel_rfl) (fun _ _ _ h => h) (Or.inl ⟨by rfl, ?_⟩) ?_ ?_
      rotate_left
      · intro w'
        go_simp
        with_reducible rfl
      rotate_left
      · simp only [Act.put, List.setIfInBounds_toArray, List.set_cons_zero, List.set_cons_succ, i64_w, i32_w]
        rfl
      refine last_ (i := 10) (N := none) #[true, true, true, true, true, true, true, true, true, true, true] rfl rfl (by kernel_rfl) (by decide) (fun K hK => ?_)
      refine skip_ (w1 := ?_) (by rfl) rfl ?_ ?_
      rotate_left
      · go_simp
        rfl
      refine hK.out _ _ ?_
      clear hK K
      refine done_ (by kernel_rfl) ?_

      clear y3 y33 fr3
      have hr3s : Kd.R k45 45 w3 w.heap.size (fun _ => True) (.slice A3 ((spansF sides ats i).length + 1) c3) (spansF sides ats (i + 1)) := by
        rw [spansF_succ HN.out hlt, HFF.out, HTT.out]
        have := HR3.out
        rw [List.length_append, List.length_singleton] at this
        exact this
      have HI4 := Aside0.mk (HI2.out.lay HG3.out HB3.out hr3s HGL.out HGSL.out HBW.out)
      obtain ⟨w4, hw4⟩ : ∃ w4, w3.setCell ⟨w.heap.size, 3, none⟩ (.slice A3 ((spansF sides ats i).length + 1) c3) = w4 := ⟨_, rfl⟩
      rw [hw4] at HI4 ⊢
      clear hr3s hw4
      obtain ⟨sb, hsb⟩ : ∃ sb, someB base0 base sides ats i = sb := ⟨_, rfl⟩
      have HSB := Aside0.mk hsb
      rw [hsb]
      clear hsb
      cases sb with
      | true =>
        · skip
          have y1 : w4.cell? ⟨g, 1, none⟩ = some (.slice (some ⟨gs, 0, none⟩) sides.length sides.length) := cell_blk HI4.out.2.1 rfl
          go_wp2
          refine start_ (n := 10) (S := fun w' => w'.cell? ⟨g, 1, none⟩ = some (.slice (some ⟨gs, 0, none⟩) sides.length sides.length)) (ds := [9]) #[false, false, false, false, false, false, false, false, false, false] (by kernel_rfl) rfl rfl (y1) (fun hHeld => ?_)
          refine pure_ (i := 0) (N := some 54) (v := ?_) (a' := ?_) #[true, false, false, false, false, false, false, false, false, false] rfl rfl (by kernel_rfl) (fun _ _ _ h => h) (Or.inl ⟨by rfl, ?_⟩) ?_ ?_
          rotate_left
          · intro w'
            go_simp
            with_reducible rfl
          rotate_left
          · simp only [Act.put, List.setIfInBounds_toArray, List.set_cons_zero, List.set_cons_succ, i64_w, i32_w]
            rfl
          refine pure_ (i := 1) (N := some 55) (v := ?_) (a' := ?_) #[true, true, false, false, false, false, false, false, false, false] rfl rfl (by kernel_rfl) (fun _ _ _ h => h) (Or.inl ⟨by rfl, ?_⟩) ?_ ?_
          rotate_left
          · intro w'
            go_simp
            with_reducible rfl
          rotate_left
          · simp only [Act.put, List.setIfInBounds_toArray, List.set_cons_zero, List.set_cons_succ, i64_w, i32_w]
            rfl
          refine pure_ (i := 2) (N := some 56) (v := ?_) (a' := ?_) #[true, true, true, false, false, false, false, false, false, false] rfl rfl (by kernel_rfl) (fun _ _ _ h => h) (Or.inl ⟨by rfl, ?_⟩) ?_ ?_
          rotate_left
          · intro w'
            go_simp
            with_reducible rfl
          rotate_left
          · simp only [Act.put, List.setIfInBounds_toArray, List.set_cons_zero, List.set_cons_succ, i64_w, i32_w]
            rfl
          refine pure_ (i := 4) (N := some 58) (v := ?_) (a' := ?_) #[true, true, true, false, true, false, false, false, false, false] rfl rfl (by kernel_rfl) (fun _ _ _ h => h) (Or.inl ⟨by rfl, ?_⟩) ?_ ?_
          rotate_left
          · intro w'
            go_simp
            with_reducible rfl
          rotate_left
          · simp only [Act.put, List.setIfInBounds_toArray, List.set_cons_zero, List.set_cons_succ, i64_w, i32_w]
            rfl
          refine pure_ (i := 5) (N := some 59) (v := ?_) (a' := ?_) #[true, true, true, false, true, true, false, false, false, false] rfl rfl (by kernel_rfl) (fun _ _ _ h => h) (Or.inl ⟨by rfl, ?_⟩) ?_ ?_
          rotate_left
          · intro w'
            go_simp
            with_reducible rfl
          rotate_left
          · simp only [Act.put, List.setIfInBounds_toArray, List.set_cons_zero, List.set_cons_succ, i64_w, i32_w]
            rfl
          refine pure_ (i := 6) (N := some 60) (v := ?_) (a' := ?_) #[true, true, true, false, true, true, true, false, false, false] rfl rfl (by kernel_rfl) (fun _ _ _ h => h) (Or.inl ⟨by rfl, ?_⟩) ?_ ?_
          rotate_left
          · intro w'
            go_simp
            with_reducible rfl
          rotate_left
          · simp only [Act.put, List.setIfInBounds_toArray, List.set_cons_zero, List.set_cons_succ, i64_w, i32_w]
            rfl
          refine take_ (i := 3) (N := some 57) (v := ?_) (a' := ?_) #[true, true, true, true, true, true, true, false, false, false] rfl rfl (by kernel_rfl) (fun _ _ _ h => h) (Or.inl ⟨by rfl, ?_⟩) hHeld ?_ ?_
          rotate_left
          · intro w' s0
            go_simp
            with_reducible rfl
          rotate_left
          · simp only [Act.put, List.setIfInBounds_toArray, List.set_cons_zero, List.set_cons_succ, i64_w, i32_w]
            rfl
          refine one_ (i := 7) (N := some 61) #[true, true, true, true, true, true, true, true, false, false] rfl rfl (by kernel_rfl) (by decide) (fun K hK => ?_)
          refine goesC_ Tryz.func75 (by kernel_rfl) rfl #[.pointer (some ⟨g1, 0, none⟩), .pointer (some ⟨g2, 0, none⟩)] #[.int .i64 (i : Int), .pointer (some ⟨g1, 0, none⟩), .pointer (some ⟨g2, 0, none⟩)] (by rfl) rfl rfl (by rfl) (by simp only [List.map_toArray, List.map_cons, List.map_nil]; rfl) ?_
          with_reducible refine (HATI.out w4.drew (HI4.out.keeps.below (Below.refl _ _).drew)).mono ?_
          rintro e w7' ⟨rfl, n7, hn7⟩
          obtain ⟨w7, hw7⟩ : ∃ w7, w7 = w7' := ⟨_, rfl⟩
          rw [← hw7]
          rw [← hw7] at hn7
          clear hw7
          refine ⟨_, rfl, ?_⟩
          have HB7 : Aside0 (Below w4.heap.size w4 w7) := ⟨by rw [hn7]; exact pw_below_drewN (Below.refl _ _).drew n7⟩
          clear hn7
          have HI7 := Aside0.mk (HI4.out.below HB7.out (Nat.le_trans HBW.out HI4.out.keeps.1))
          have y17 : w7.cell? ⟨g, 1, none⟩ = some (.slice (some ⟨gs, 0, none⟩) sides.length sides.length) := cell_blk HI7.out.2.1 rfl
          have x7 : w7.cell? ⟨gs, i, none⟩ = some (.int .i64 f) := by rw [← HFF.out]; exact HI7.out.side hlt HN.out
          have fr7 : w7.frozen? ⟨gs, i, none⟩ = false := frozen_of_row _ _ _ _ _ HI7.out.2.2.1
          refine hK.out _ _ (y17) (fun hHeld => ?_)
          clear hK K
          refine norm_ (a' := ?_) ?_ ?_
          rotate_left
          · show Act.put _ (some 61) _ = _
            simp only [Act.put, List.setIfInBounds_toArray, List.set_cons_zero, List.set_cons_succ, i64_w, i32_w]
            rfl
          refine pure_ (i := 8) (N := some 62) (v := ?_) (a' := ?_) #[true, true, true, true, true, true, true, true, true, false] rfl rfl (by kernel_rfl) (fun _ _ _ h => h) (Or.inl ⟨by rfl, ?_⟩) ?_ ?_
          rotate_left
          · intro w'
            go_simp
            with_reducible rfl
          rotate_left
          · simp only [Act.put, List.setIfInBounds_toArray, List.set_cons_zero, List.set_cons_succ, i64_w, i32_w]
            rfl
          refine last_ (i := 9) (N := none) #[true, true, true, true, true, true, true, true, true, true] rfl rfl (by kernel_rfl) (by decide) (fun K hK => ?_)
          refine skip_ (w1 := ?_) (by rfl) rfl ?_ ?_
          rotate_left
          · go_simp
            rfl
          refine hK.out _ _ ?_
          clear hK K
          refine done_ (by kernel_rfl) ?_

          clear y1 y17 x7 fr7
          go_wp2
          go_roundw
          case measure => simp [intOf]; omega
          case rel => exact ⟨i + 1, _, by rw [someB_succ HN.out hlt, HSB.out, HFF.out, HTT.out]; rfl, by go_num, by omega, ⟨by rw [← HTT.out]; exact HI7.out.move hlt HN.out HGL.out HGSL.out h4 HNE.out⟩⟩
      | false =>
        · go_wp2_with fail
          refine (HATI.out w4 HI4.out.keeps).mono ?_
          rintro e w5' ⟨rfl, n5, hn5⟩
          obtain ⟨w5, hw5⟩ : ∃ w5, w5 = w5' := ⟨_, rfl⟩
          rw [← hw5]
          rw [← hw5] at hn5
          clear hw5
          have HB5 : Aside0 (Below w4.heap.size w4 w5) := ⟨by rw [hn5]; exact pw_below_drewN (Below.refl _ _) n5⟩
          have HI5 := Aside0.mk (HI4.out.below HB5.out (Nat.le_trans HBW.out HI4.out.keeps.1))
          clear hn5
          have y1 : w5.cell? ⟨g, 1, none⟩ = some (.slice (some ⟨gs, 0, none⟩) sides.length sides.length) := cell_blk HI5.out.2.1 rfl
          go_wp2
          refine start_ (n := 10) (S := fun w' => w'.cell? ⟨g, 1, none⟩ = some (.slice (some ⟨gs, 0, none⟩) sides.length sides.length)) (ds := [9]) #[false, false, false, false, false, false, false, false, false, false] (by kernel_rfl) rfl rfl (y1) (fun hHeld => ?_)
          refine pure_ (i := 0) (N := some 54) (v := ?_) (a' := ?_) #[true, false, false, false, false, false, false, false, false, false] rfl rfl (by kernel_rfl) (fun _ _ _ h => h) (Or.inl ⟨by rfl, ?_⟩) ?_ ?_
          rotate_left
          · intro w'
            go_simp
            with_reducible rfl
          rotate_left
          · simp only [Act.put, List.setIfInBounds_toArray, List.set_cons_zero, List.set_cons_succ, i64_w, i32_w]
            rfl
          refine pure_ (i := 1) (N := some 55) (v := ?_) (a' := ?_) #[true, true, false, false, false, false, false, false, false, false] rfl rfl (by kernel_rfl) (fun _ _ _ h => h) (Or.inl ⟨by rfl, ?_⟩) ?_ ?_
          rotate_left
          · intro w'
            go_simp
            with_reducible rfl
          rotate_left
          · simp only [Act.put, List.setIfInBounds_toArray, List.set_cons_zero, List.set_cons_succ, i64_w, i32_w]
            rfl
          refine pure_ (i := 2) (N := some 56) (v := ?_) (a' := ?_) #[true, true, true, false, false, false, false, false, false, false] rfl rfl (by kernel_rfl) (fun _ _ _ h => h) (Or.inl ⟨by rfl, ?_⟩) ?_ ?_
          rotate_left
          · intro w'
            go_simp
            with_reducible rfl
          rotate_left
          · simp only [Act.put, List.setIfInBounds_toArray, List.set_cons_zero, List.set_cons_succ, i64_w, i32_w]
            rfl
          refine pure_ (i := 4) (N := some 58) (v := ?_) (a' := ?_) #[true, true, true, false, true, false, false, false, false, false] rfl rfl (by kernel_rfl) (fun _ _ _ h => h) (Or.inl ⟨by rfl, ?_⟩) ?_ ?_
          rotate_left
          · intro w'
            go_simp
            with_reducible rfl
          rotate_left
          · simp only [Act.put, List.setIfInBounds_toArray, List.set_cons_zero, List.set_cons_succ, i64_w, i32_w]
            rfl
          refine pure_ (i := 5) (N := some 59) (v := ?_) (a' := ?_) #[true, true, true, false, true, true, false, false, false, false] rfl rfl (by kernel_rfl) (fun _ _ _ h => h) (Or.inl ⟨by rfl, ?_⟩) ?_ ?_
          rotate_left
          · intro w'
            go_simp
            with_reducible rfl
          rotate_left
          · simp only [Act.put, List.setIfInBounds_toArray, List.set_cons_zero, List.set_cons_succ, i64_w, i32_w]
            rfl
          refine pure_ (i := 6) (N := some 60) (v := ?_) (a' := ?_) #[true, true, true, false, true, true, true, false, false, false] rfl rfl (by kernel_rfl) (fun _ _ _ h => h) (Or.inl ⟨by rfl, ?_⟩) ?_ ?_
          rotate_left
          · intro w'
            go_simp
            with_reducible rfl
          rotate_left
          · simp only [Act.put, List.setIfInBounds_toArray, List.set_cons_zero, List.set_cons_succ, i64_w, i32_w]
            rfl
          refine take_ (i := 3) (N := some 57) (v := ?_) (a' := ?_) #[true, true, true, true, true, true, true, false, false, false] rfl rfl (by kernel_rfl) (fun _ _ _ h => h) (Or.inl ⟨by rfl, ?_⟩) hHeld ?_ ?_
          rotate_left
          · intro w' s0
            go_simp
            with_reducible rfl
          rotate_left
          · simp only [Act.put, List.setIfInBounds_toArray, List.set_cons_zero, List.set_cons_succ, i64_w, i32_w]
            rfl
          refine one_ (i := 7) (N := some 61) #[true, true, true, true, true, true, true, true, false, false] rfl rfl (by kernel_rfl) (by decide) (fun K hK => ?_)
          refine goesC_ Tryz.func75 (by kernel_rfl) rfl #[.pointer (some ⟨g1, 0, none⟩), .pointer (some ⟨g2, 0, none⟩)] #[.int .i64 (i : Int), .pointer (some ⟨g1, 0, none⟩), .pointer (some ⟨g2, 0, none⟩)] (by rfl) rfl rfl (by rfl) (by simp only [List.map_toArray, List.map_cons, List.map_nil]; rfl) ?_
          with_reducible refine (HATI.out w5.drew (HI5.out.keeps.below (Below.refl _ _).drew)).mono ?_
          rintro e w7' ⟨rfl, n7, hn7⟩
          obtain ⟨w7, hw7⟩ : ∃ w7, w7 = w7' := ⟨_, rfl⟩
          rw [← hw7]
          rw [← hw7] at hn7
          clear hw7
          refine ⟨_, rfl, ?_⟩
          have HB7 : Aside0 (Below w5.heap.size w5 w7) := ⟨by rw [hn7]; exact pw_below_drewN (Below.refl _ _).drew n7⟩
          clear hn7
          have HI7 := Aside0.mk (HI5.out.below HB7.out (Nat.le_trans HBW.out HI5.out.keeps.1))
          have y17 : w7.cell? ⟨g, 1, none⟩ = some (.slice (some ⟨gs, 0, none⟩) sides.length sides.length) := cell_blk HI7.out.2.1 rfl
          have x7 : w7.cell? ⟨gs, i, none⟩ = some (.int .i64 f) := by rw [← HFF.out]; exact HI7.out.side hlt HN.out
          have fr7 : w7.frozen? ⟨gs, i, none⟩ = false := frozen_of_row _ _ _ _ _ HI7.out.2.2.1
          refine hK.out _ _ (y17) (fun hHeld => ?_)
          clear hK K
          refine norm_ (a' := ?_) ?_ ?_
          rotate_left
          · show Act.put _ (some 61) _ = _
            simp only [Act.put, List.setIfInBounds_toArray, List.set_cons_zero, List.set_cons_succ, i64_w, i32_w]
            rfl
          refine pure_ (i := 8) (N := some 62) (v := ?_) (a' := ?_) #[true, true, true, true, true, true, true, true, true, false] rfl rfl (by kernel_rfl) (fun _ _ _ h => h) (Or.inl ⟨by rfl, ?_⟩) ?_ ?_
          rotate_left
          · intro w'
            go_simp
            with_reducible rfl
          rotate_left
          · simp only [Act.put, List.setIfInBounds_toArray, List.set_cons_zero, List.set_cons_succ, i64_w, i32_w]
            rfl
          refine last_ (i := 9) (N := none) #[true, true, true, true, true, true, true, true, true, true] rfl rfl (by kernel_rfl) (by decide) (fun K hK => ?_)
          refine skip_ (w1 := ?_) (by rfl) rfl ?_ ?_
          rotate_left
          · go_simp
            rfl
          refine hK.out _ _ ?_
          clear hK K
          refine done_ (by kernel_rfl) ?_

          clear y1 y17 x7 fr7
          go_wp2
          go_roundw
          case measure => simp [intOf]; omega
          case rel => exact ⟨i + 1, _, by rw [someB_succ HN.out hlt, HSB.out, HFF.out, HTT.out]; simp, by go_num, by omega, ⟨by rw [← HTT.out]; exact HI7.out.move hlt HN.out HGL.out HGSL.out h4 HNE.out⟩⟩
    · have hin : i = sides.length := by omega
      subst hin
      have d1 : decide ((sides.length : Int) < (sides.length : Int)) = false := decide_eq_false (by omega)
      have HS : Aside0 (Kd.S k48 48 wr B (fun k => k < w.heap.size) vo out) := ⟨out_keep H5.out H1.out H3.out HI.out.keeps⟩
      obtain ⟨Ao, co, hvo⟩ := Kd.S_slice HS.out
      subst hvo
      obtain ⟨Ak, ck, hvk⟩ := Kd.R_slice HI.out.spans
      have hsl := spansF_len (i := sides.length) HN.out (Nat.le_refl _)
      obtain ⟨sb, hsb⟩ : ∃ sb, someB base0 base sides ats sides.length = sb := ⟨_, rfl⟩
      have HSB := Aside0.mk hsb
      rw [hsb]
      clear hsb
      cases sb with
      | false =>
        · have HO : Aside0 (cutOut stable base0 base sides ats out = out) := ⟨by rw [cutOut, HSB.out, if_neg (by decide)]⟩
          have e0 : wr.cell? ⟨g, 0, none⟩ = some (.int .i64 base0) := cell_blk HI.out.2.1 rfl
          have f0 : wr.frozen? ⟨g, 0, none⟩ = false := frozen_of_row _ _ _ _ _ HI.out.2.1
          clear hsl hvk
          go_wp2
          go_end0
          exact ⟨rfl, ⟨by rw [HO.out]; exact cut_done HI.out.2.1 HI.out.2.2.1 (Kd.S_mono HS.out (fun _ _ => trivial)) HI.out.bel h2 h4 HNE.out HN.out⟩, ⟨(HI.out.keeps.set 0 _).toC⟩⟩
      | true =>
        · have HO : Aside0 (cutOut stable base0 base sides ats out = out ++ [⟨stable, ⟨base0, base⟩, spansF sides ats sides.length⟩]) := ⟨by rw [cutOut, HSB.out, if_pos rfl]⟩
          have HVK := Aside0.mk hvk
          have hchunk := HI.out.chunk
          rw [hvk, hsl] at hchunk
          have y2 : wr.cell? ⟨g, 2, none⟩ = some (.slice Ao out.length co) := cell_blk HI.out.2.1 rfl
          have z0 : wr.cell? ⟨w.heap.size, 0, none⟩ = some (.bool stable) := cell_blk hchunk rfl
          have z1 : wr.cell? ⟨w.heap.size, 1, none⟩ = some (.int .i64 base0) := cell_blk hchunk rfl
          have z2 : wr.cell? ⟨w.heap.size, 2, none⟩ = some (.int .i64 base) := cell_blk hchunk rfl
          have z3 : wr.cell? ⟨w.heap.size, 3, none⟩ = some (.slice Ak sides.length ck) := cell_blk hchunk rfl
          have HP : Aside0 (Kd.R k45 45 wr B (fun k => w.heap.size ≤ k) (.slice Ak sides.length ck) (spansF sides ats sides.length)) := ⟨by
            have := HI.out.spans
            rw [hvk, hsl] at this
            exact Kd.R_lower (Kd.R_mono (Kd.R_bound this) (fun k hk => hk.2.1)) HBW.out⟩
          have HPM : Aside0 ((k48).M wr.drew B (fun k => w.heap.size ≤ k) ⟨stable, ⟨base0, base⟩, spansF sides ats sides.length⟩ [.bool stable, .int .i64 base0, .int .i64 base, .slice Ak sides.length ck]) := ⟨k48_mkM _ _ _ ⟨stable, ⟨base0, base⟩, spansF sides ats sides.length⟩ (Kd.R_drew HP.out)⟩
          clear hsl hvk hchunk
          go_wp2
          refine start_ (n := 11) (S := fun w' => w'.cell? ⟨g, 2, none⟩ = some (.slice Ao out.length co) ∧ w'.cell? ⟨w.heap.size, 0, none⟩ = some (.bool stable) ∧ w'.cell? ⟨w.heap.size, 1, none⟩ = some (.int .i64 base0) ∧ w'.cell? ⟨w.heap.size, 2, none⟩ = some (.int .i64 base) ∧ w'.cell? ⟨w.heap.size, 3, none⟩ = some (.slice Ak sides.length ck)) (ds := [7, 10]) #[false, false, false, false, false, false, false, false, false, false, false] (by kernel_rfl) rfl rfl ⟨y2, z0, z1, z2, z3⟩ (fun hHeld => ?_)
          refine pure_ (i := 0) (N := some 65) (v := ?_) (a' := ?_) #[true, false, false, false, false, false, false, false, false, false, false] rfl rfl (by kernel_rfl) (fun _ _ _ h => h) (Or.inl ⟨by rfl, ?_⟩) ?_ ?_
          rotate_left
          · intro w'
            go_simp
            with_reducible rfl
          rotate_left
          · simp only [Act.put, List.setIfInBounds_toArray, List.set_cons_zero, List.set_cons_succ, i64_w, i32_w]
            rfl
          refine pure_ (i := 1) (N := some 66) (v := ?_) (a' := ?_) #[true, true, false, false, false, false, false, false, false, false, false] rfl rfl (by kernel_rfl) (fun _ _ _ h => h) (Or.inl ⟨by rfl, ?_⟩) ?_ ?_
          rotate_left
          · intro w'
            go_simp
            with_reducible rfl
          rotate_left
          · simp only [Act.put, List.setIfInBounds_toArray, List.set_cons_zero, List.set_cons_succ, i64_w, i32_w]
            rfl
          refine pure_ (i := 2) (N := some 67) (v := ?_) (a' := ?_) #[true, true, true, false, false, false, false, false, false, false, false] rfl rfl (by kernel_rfl) (fun _ _ _ h => h) (Or.inl ⟨by rfl, ?_⟩) ?_ ?_
          rotate_left
          · intro w'
            go_simp
            with_reducible rfl
          rotate_left
          · simp only [Act.put, List.setIfInBounds_toArray, List.set_cons_zero, List.set_cons_succ, i64_w, i32_w]
            rfl
          refine pure_ (i := 3) (N := some 68) (v := ?_) (a' := ?_) #[true, true, true, true, false, false, false, false, false, false, false] rfl rfl (by kernel_rfl) (fun _ _ _ h => h) (Or.inl ⟨by rfl, ?_⟩) ?_ ?_
          rotate_left
          · intro w'
            go_simp
            with_reducible rfl
          rotate_left
          · simp only [Act.put, List.setIfInBounds_toArray, List.set_cons_zero, List.set_cons_succ, i64_w, i32_w]
            rfl
          refine take_ (i := 4) (N := some 69) (v := ?_) (a' := ?_) #[true, true, true, true, true, false, false, false, false, false, false] rfl rfl (by kernel_rfl) (fun _ _ _ h => h) (Or.inl ⟨by rfl, ?_⟩) hHeld ?_ ?_
          rotate_left
          · rintro w' ⟨s0, s1, s2, s3, s4⟩
            go_simp
            with_reducible rfl
          rotate_left
          · simp only [Act.put, List.setIfInBounds_toArray, List.set_cons_zero, List.set_cons_succ, i64_w, i32_w]
            rfl
          refine take_ (i := 5) (N := some 70) (v := ?_) (a' := ?_) #[true, true, true, true, true, true, false, false, false, false, false] rfl rfl (by kernel_rfl) (fun _ _ _ h => h) (Or.inl ⟨by rfl, ?_⟩) hHeld ?_ ?_
          rotate_left
          · rintro w' ⟨s0, s1, s2, s3, s4⟩
            go_simp
            with_reducible rfl
          rotate_left
          · simp only [Act.put, List.setIfInBounds_toArray, List.set_cons_zero, List.set_cons_succ, i64_w, i32_w]
            rfl
          refine one_ (i := 6) (N := some 71) #[true, true, true, true, true, true, true, false, false, false, false] rfl rfl (by kernel_rfl) (by decide) (fun K hK => ?_)
          refine value_ (w1 := ?_) (v := ?_) (by rfl) rfl ?_ ?_
          rotate_left 2
          · go_simp
            constructor
            · rfl
            · rfl
          refine hK.out _ _ ⟨cell_alloc_of y2 _, cell_alloc_of z0 _, cell_alloc_of z1 _, cell_alloc_of z2 _, cell_alloc_of z3 _⟩ (fun hHeld => ?_)
          clear hK K
          refine norm_ (a' := ?_) ?_ ?_
          rotate_left
          · show Act.put _ (some 71) _ = _
            simp only [Act.put, List.setIfInBounds_toArray, List.set_cons_zero, List.set_cons_succ, i64_w, i32_w]
            rfl
          refine last_ (i := 7) (N := some 72) #[true, true, true, true, true, true, true, true, false, false, false] rfl rfl (by kernel_rfl) (by decide) (fun K hK => ?_)
          refine Kd.S_append_step k48 (w0 := wr.drew) (W := wr.drew) B (by rfl) (.tmp 69) (.tmp 71) 26 48 (.agg #[.bool false, .int .i64 0, .int .i64 0, .slice none 0 0]) 48 rfl Tryz.underlying26 info48 rfl (by decide) (by decide) (.slice Ao out.length co) out ⟨stable, ⟨base0, base⟩, spansF sides ats sides.length⟩ [.bool stable, .int .i64 base0, .int .i64 base, .slice Ak sides.length ck] (fun _ => True) (fun k => w.heap.size ≤ k) rfl rfl HPM.out (fun k hk => ⟨trivial, Kd.S_away HS.out (fun j hj => by omega)⟩) (fun _ _ => trivial) ?aO (Below.refl _ _) ?aS (by omega) ?_
          (case aO => exact Kd.S_mono (Kd.S_drew HS.out) (fun k hk => ⟨trivial, by omega⟩))
          (case aS => exact Nat.le_trans HBW.out HI.out.keeps.1)
          intro v9 w9 hs9 hb9 hg9 hat9
          obtain ⟨A9, c9, hv9⟩ := Kd.S_slice hs9
          subst hv9
          have hgn : some g ≠ (Value.slice Ao out.length co).ownBlock := Kd.S_ne HS.out HI.out.2.1 (by decide)
          have g9 : w9.heap[g]? = some (.cells #[.int .i64 base0, .slice (some ⟨gs, 0, none⟩) sides.length sides.length, .slice Ao out.length co] 126 (0, 0)) := (hg9.block g (blk_lt HI.out.2.1) hgn).trans HI.out.2.1
          have y29 : w9.cell? ⟨g, 2, none⟩ = some (.slice Ao out.length co) := cell_blk g9 rfl
          have fr9 : w9.frozen? ⟨g, 2, none⟩ = false := frozen_of_row _ _ _ _ _ g9
          have HS9 := Aside0.mk hs9
          have HB9 := Aside0.mk hb9
          have HG9 := Aside0.mk hg9
          have G9 := Aside0.mk g9
          clear hs9 hb9 hg9 g9 hat9 hgn
          refine hK.out _ _ ?_
          clear hK K
          refine norm_ (a' := ?_) ?_ ?_
          rotate_left
          · show Act.put _ (some 72) _ = _
            simp only [Act.put, List.setIfInBounds_toArray, List.set_cons_zero, List.set_cons_succ, i64_w, i32_w]
            rfl
          refine pure_ (i := 8) (N := some 73) (v := ?_) (a' := ?_) #[true, true, true, true, true, true, true, true, true, false, false] rfl rfl (by kernel_rfl) (fun _ _ _ h => h) (Or.inl ⟨by rfl, ?_⟩) ?_ ?_
          rotate_left
          · intro w'
            go_simp
            with_reducible rfl
          rotate_left
          · simp only [Act.put, List.setIfInBounds_toArray, List.set_cons_zero, List.set_cons_succ, i64_w, i32_w]
            rfl
          refine pure_ (i := 9) (N := some 74) (v := ?_) (a' := ?_) #[true, true, true, true, true, true, true, true, true, true, false] rfl rfl (by kernel_rfl) (fun _ _ _ h => h) (Or.inl ⟨by rfl, ?_⟩) ?_ ?_
          rotate_left
          · intro w'
            go_simp
            with_reducible rfl
          rotate_left
          · simp only [Act.put, List.setIfInBounds_toArray, List.set_cons_zero, List.set_cons_succ, i64_w, i32_w]
            rfl
          refine last_ (i := 10) (N := none) #[true, true, true, true, true, true, true, true, true, true, true] rfl rfl (by kernel_rfl) (by decide) (fun K hK => ?_)
          refine skip_ (w1 := ?_) (by rfl) rfl ?_ ?_
          rotate_left
          · go_simp
            rfl
          refine hK.out _ _ ?_
          clear hK K
          refine done_ (by kernel_rfl) ?_

          have hs9' : Kd.S k48 48 w9 B (fun _ => True) (.slice A9 (out.length + 1) c9) (out ++ [⟨stable, ⟨base0, base⟩, spansF sides ats sides.length⟩]) := by
            have := HS9.out
            rw [List.length_append, List.length_singleton] at this
            exact this
          obtain ⟨w10, hw10⟩ : ∃ w10, w9.setCell ⟨g, 2, none⟩ (.slice A9 (out.length + 1) c9) = w10 := ⟨_, rfl⟩
          rw [hw10]
          have G10 : Aside0 (w10.heap[g]? = some (.cells #[.int .i64 base0, .slice (some ⟨gs, 0, none⟩) sides.length sides.length, .slice A9 (out.length + 1) c9] 126 (0, 0))) := ⟨by rw [← hw10, heap_set_same G9.out]; rfl⟩
          have g3 : w10.heap[gs]? = some (.cells ((ats.take sides.length ++ sides.drop sides.length).map (Value.int .i64)).toArray 3 (0, 0)) := by
            rw [← hw10]
            exact set_keepA ((HG9.out.block gs (blk_lt HI.out.2.2.1) (Kd.S_ne HS.out HI.out.2.2.1 (by decide))).trans HI.out.2.2.1) (fun e => HNE.out e.symm) _
          have G3 := Aside0.mk g3
          have S10 : Aside0 (Kd.S k48 48 w10 B (fun _ => True) (.slice A9 (out.length + 1) c9) (out ++ [⟨stable, ⟨base0, base⟩, spansF sides ats sides.length⟩])) := ⟨by rw [← hw10]; exact Kd.S_set hs9' G9.out (by decide) 2 _⟩
          have B10 : Aside0 (Below B w0 w10) := ⟨by rw [← hw10]; exact (HI.out.bel.drew.trans HB9.out).setCell (p := ⟨g, 2, none⟩) h2 _⟩
          have K10 : Aside0 (CKeeps g gs w w10) := ⟨by
            rw [← hw10]
            refine ⟨by have := HG9.out.size; have := HI.out.keeps.1; simp [World.setCell] at *; omega, fun k cs q fr a b hk hq => ?_⟩
            have hkl := (Array.getElem?_eq_some_iff.1 hk).1
            have hkr : wr.heap[k]? = some (.cells cs q fr) := (HI.out.keeps.2 k hkl a b).trans hk
            rw [heap_set_other a]
            refine (HG9.out.block k (blk_lt hkr) (fun e => ?_)).trans hkr
            obtain ⟨cells, hc⟩ := Kd.S_typed HS.out k e.symm
            rw [hkr] at hc
            injection hc with hc
            injection hc with _ e2 _
            exact hq e2⟩
          have e0 : w10.cell? ⟨g, 0, none⟩ = some (.int .i64 base0) := cell_blk G10.out rfl
          have f0 : w10.frozen? ⟨g, 0, none⟩ = false := frozen_of_row _ _ _ _ _ G10.out
          clear g3 hs9' hw10 y2 z0 z1 z2 z3 y29 fr9
          go_wp2
          go_end0
          refine ⟨rfl, ⟨by rw [HO.out]; exact cut_done G10.out G3.out S10.out B10.out h2 h4 HNE.out HN.out⟩, ⟨⟨by have := K10.out.1; simpa [World.setCell] using this, fun k cs q fr a b hk hq => (heap_set_other a _).trans (K10.out.2 k cs q fr a b hk hq)⟩⟩⟩
set_option maxRecDepth 100000 in
set_option maxHeartbeats 8000000 in
theorem cut_to_3 (w0 w : World) (B g gs g1 g2 : Nat) (stable : Bool) (base0 base : Int) (sides ats : List Int) (out : List Chunk) (h : CutIn w0 w B g gs base0 sides out) (hB : B = w0.heap.size) (hn : ats.length = sides.length) (hs : sides.length ≤ 1000) (ho : out.length ≤ 100000)
    (hat : ∀ W', AKeeps g gs w W' → ∀ i, i < sides.length → Calls Tryz.prog 76 #[.int .i64 (i : Int), .pointer (some ⟨g1, 0, none⟩), .pointer (some ⟨g2, 0, none⟩)] W' fun e w'' => e = .returned (.int .i64 (ats.getD i 0)) ∧ Drawn0 W' w'') :
    Calls Tryz.prog 74 #[.pointer (some ⟨g, 0, none⟩), .bool stable, .int .i64 base, .func (.func 76) #[] #[.pointer (some ⟨g1, 0, none⟩), .pointer (some ⟨g2, 0, none⟩)]] w fun e w' => e = .returned (.tuple #[]) ∧ Aside0 (CutIn w0 w' B g gs base ats (cutOut stable base0 base sides ats out)) ∧ Aside0 (CKeeps g gs w w') := by
  obtain ⟨vo, h1, h2, h3, h4, h5, h6⟩ := h
  have H1 := Aside0.mk h1
  have H3 := Aside0.mk h3
  have H5 := Aside0.mk h5
  have H6 := Aside0.mk h6
  have HAT := Aside0.mk hat
  have HN := Aside0.mk hn
  have c0 : w.cell? ⟨g, 0, none⟩ = some (.int .i64 base0) := cell_blk h1 rfl
  have c1 : w.cell? ⟨g, 1, none⟩ = some (.slice (some ⟨gs, 0, none⟩) sides.length sides.length) := cell_blk h1 rfl
  have HBW : Aside0 (B ≤ w.heap.size) := ⟨by rw [hB]; exact H6.out.size⟩
  have HGL : Aside0 (g < w.heap.size) := ⟨blk_lt h1⟩
  have HGSL : Aside0 (gs < w.heap.size) := ⟨blk_lt h3⟩
  have HNE : Aside0 (g ≠ gs) := ⟨blk_neA h1 h3 (by decide)⟩
  have c0o : ∀ o, (w.alloc o).cell? ⟨g, 0, none⟩ = some (.int .i64 base0) := fun o => cell_alloc_of c0 o
  have c1o : ∀ o, (w.alloc o).cell? ⟨g, 1, none⟩ = some (.slice (some ⟨gs, 0, none⟩) sides.length sides.length) := fun o => cell_alloc_of c1 o
  clear h1 h3 h5 h6 hat hn
  go_enter Tryz.func74, Tryz.ntmps74
  go_wp2_with fail
  go_loopw [9, 31] (fun s9 s31 wr => ∃ (i : Nat) (vk : Value), s9 = .bool (someB base0 base sides ats i) ∧ s31 = .int .i64 i ∧ i ≤ sides.length ∧ Aside0 (ToI w0 w wr B g gs stable base0 base sides ats vo i i vk)) (fun _ s31 _ => sides.length - (intOf s31).toNat)
  case atStart =>
    have hb : ∀ o, Below w.heap.size w (w.alloc o) := fun o => (Below.refl _ w).alloc (Nat.le_refl _) o
    exact ⟨0, .slice none 0 0, by simp [someB], rfl, Nat.zero_le _, ⟨(AKeeps.refl g gs w).below (hb _), far_keep H1.out (hb _), by simpa using far_keep H3.out (hb _), blk_new _ _, Kd.R_nil _ _ _ _ _, H6.out.trans ((hb _).mono HBW.out)⟩⟩
  case round =>
    obtain ⟨i, vk, rfl, rfl, hi, HI⟩ := hrel
    by_cases hlt : i < sides.length
    · have d1 : decide ((i : Int) < (sides.length : Int)) = true := decide_eq_true (by omega)
      have d2 : decide (i < sides.length) = true := decide_eq_true hlt
      obtain ⟨Ak, ck, hvk⟩ := Kd.R_slice HI.out.spans
      rw [spansF_len HN.out hi] at hvk
      subst hvk
      have xi := HI.out.side hlt HN.out
      have y3 : wr.cell? ⟨w.heap.size, 3, none⟩ = some (.slice Ak i ck) := cell_blk HI.out.chunk rfl
      obtain ⟨f, hf⟩ : ∃ f, sides.getD i 0 = f := ⟨_, rfl⟩
      obtain ⟨t, ht⟩ : ∃ t, ats.getD i 0 = t := ⟨_, rfl⟩
      have hat := HAT.out
      have HFF := Aside0.mk hf
      have HTT := Aside0.mk ht
      rw [hf] at xi
      have HATI : Aside0 (∀ W', AKeeps g gs w W' → Calls Tryz.prog 76 #[.int .i64 (i : Int), .pointer (some ⟨g1, 0, none⟩), .pointer (some ⟨g2, 0, none⟩)] W' fun e w'' => e = .returned (.int .i64 t) ∧ Drawn0 W' w'') := ⟨fun W' hW => by rw [← ht]; exact hat W' hW i hlt⟩
      have hBr : B ≤ wr.heap.size := Nat.le_trans HBW.out HI.out.keeps.1
      clear hat hf ht
      go_wp2
      refine start_ (n := 11) (S := fun w' => w'.cell? ⟨w.heap.size, 3, none⟩ = some (.slice Ak i ck)) (ds := [8, 10]) #[false, false, false, false, false, false, false, false, false, false, false] (by kernel_rfl) rfl rfl (y3) (fun hHeld => ?_)
      refine pure_ (i := 0) (N := some 36) (v := ?_) (a' := ?_) #[true, false, false, false, false, false, false, false, false, false, false] rfl rfl (by kernel_rfl) (fun _ _ _ h => h) (Or.inl ⟨by rfl, ?_⟩) ?_ ?_
      rotate_left
      · intro w'
        go_simp
        with_reducible rfl
      rotate_left
      · simp only [Act.put, List.setIfInBounds_toArray, List.set_cons_zero, List.set_cons_succ, i64_w, i32_w]
        rfl
      refine pure_ (i := 2) (N := some 38) (v := ?_) (a' := ?_) #[true, false, true, false, false, false, false, false, false, false, false] rfl rfl (by kernel_rfl) (fun _ _ _ h => h) (Or.inl ⟨by rfl, ?_⟩) ?_ ?_
      rotate_left
      · intro w'
        go_simp
        with_reducible rfl
      rotate_left
      · simp only [Act.put, List.setIfInBounds_toArray, List.set_cons_zero, List.set_cons_succ, i64_w, i32_w]
        rfl
      refine pure_ (i := 3) (N := some 39) (v := ?_) (a' := ?_) #[true, false, true, true, false, false, false, false, false, false, false] rfl rfl (by kernel_rfl) (fun _ _ _ h => h) (Or.inl ⟨by rfl, ?_⟩) ?_ ?_
      rotate_left
      · intro w'
        go_simp
        with_reducible rfl
      rotate_left
      · simp only [Act.put, List.setIfInBounds_toArray, List.set_cons_zero, List.set_cons_succ, i64_w, i32_w]
        rfl
      refine pure_ (i := 4) (N := some 40) (v := ?_) (a' := ?_) #[true, false, true, true, true, false, false, false, false, false, false] rfl rfl (by kernel_rfl) (fun _ _ _ h => h) (Or.inl ⟨by rfl, ?_⟩) ?_ ?_
      rotate_left
      · intro w'
        go_simp
        with_reducible rfl
      rotate_left
      · simp only [Act.put, List.setIfInBounds_toArray, List.set_cons_zero, List.set_cons_succ, i64_w, i32_w]
        rfl
      refine take_ (i := 1) (N := some 37) (v := ?_) (a' := ?_) #[true, true, true, true, true, false, false, false, false, false, false] rfl rfl (by kernel_rfl) (fun _ _ _ h => h) (Or.inl ⟨by rfl, ?_⟩) hHeld ?_ ?_
      rotate_left
      · intro w' s0
        go_simp
        with_reducible rfl
      rotate_left
      · simp only [Act.put, List.setIfInBounds_toArray, List.set_cons_zero, List.set_cons_succ, i64_w, i32_w]
        rfl
      refine one_ (i := 5) (N := some 41) #[true, true, true, true, true, true, false, false, false, false, false] rfl rfl (by kernel_rfl) (by decide) (fun K hK => ?_)
      refine goesC_ Tryz.func76 (by kernel_rfl) rfl #[.pointer (some ⟨g1, 0, none⟩), .pointer (some ⟨g2, 0, none⟩)] #[.int .i64 (i : Int), .pointer (some ⟨g1, 0, none⟩), .pointer (some ⟨g2, 0, none⟩)] (by rfl) rfl rfl (by rfl) (by simp only [List.map_toArray, List.map_cons, List.map_nil]; rfl) ?_
      with_reducible refine (HATI.out wr.drew (HI.out.keeps.below (Below.refl _ _).drew)).mono ?_
      rintro e w2' ⟨rfl, n2, hn2⟩
      obtain ⟨w2, hw2⟩ : ∃ w2, w2 = w2' := ⟨_, rfl⟩
      rw [← hw2]
      rw [← hw2] at hn2
      clear hw2
      refine ⟨_, rfl, ?_⟩
      have HB2 : Aside0 (Below wr.heap.size wr w2) := ⟨by rw [hn2]; exact pw_below_drewN (Below.refl _ _).drew n2⟩
      clear hn2
      have HI2 := Aside0.mk (HI.out.below HB2.out hBr)
      have y32 : w2.cell? ⟨w.heap.size, 3, none⟩ = some (.slice Ak i ck) := cell_blk HI2.out.chunk rfl
      refine hK.out _ _ (y32) (fun hHeld => ?_)
      clear hK K
      refine norm_ (a' := ?_) ?_ ?_
      rotate_left
      · show Act.put _ (some 41) _ = _
        simp only [Act.put, List.setIfInBounds_toArray, List.set_cons_zero, List.set_cons_succ, i64_w, i32_w]
        rfl
      refine pure_ (i := 6) (N := some 42) (v := ?_) (a' := ?_) #[true, true, true, true, true, true, true, false, false, false, false] rfl rfl (by kernel_rfl) (fun _ _ _ h => h) (Or.inl ⟨by rfl, ?_⟩) ?_ ?_
      rotate_left
      · intro w'
        go_simp
        with_reducible rfl
      rotate_left
      · simp only [Act.put, List.setIfInBounds_toArray, List.set_cons_zero, List.set_cons_succ, i64_w, i32_w]
        rfl
      refine one_ (i := 7) (N := some 43) #[true, true, true, true, true, true, true, true, false, false, false] rfl rfl (by kernel_rfl) (by decide) (fun K hK => ?_)
      refine value_ (w1 := ?_) (v := ?_) (by rfl) rfl ?_ ?_
      rotate_left 2
      · go_simp
        constructor
        · rfl
        · rfl
      refine hK.out _ _ (cell_alloc_of y32 _) (fun hHeld => ?_)
      clear hK K
      refine norm_ (a' := ?_) ?_ ?_
      rotate_left
      · show Act.put _ (some 43) _ = _
        simp only [Act.put, List.setIfInBounds_toArray, List.set_cons_zero, List.set_cons_succ, i64_w, i32_w]
        rfl
      refine last_ (i := 8) (N := some 44) #[true, true, true, true, true, true, true, true, true, false, false] rfl rfl (by kernel_rfl) (by decide) (fun K hK => ?_)
      refine Kd.R_append_step k45 (w0 := w2) w.heap.size (by rfl) (.tmp 37) (.tmp 43) 46 45 (.agg #[.int .i64 0, .int .i64 0]) 16 rfl Tryz.underlying46 info45 rfl (by decide) (by decide) (.slice Ak i ck) (spansF sides ats i) ⟨f, t⟩ [.int .i64 f, .int .i64 t] (fun _ => True) (fun _ => False) rfl rfl (k45_mkM _ _ _ _) (fun _ h => h.elim) (fun _ _ => trivial) ?aO (Below.refl _ _) HI2.out.keeps.1 (by rw [spansF_len HN.out hi]; omega) ?_
      (case aO => exact HI2.out.spans)
      intro v3 w3 hr3 hb3 hg3 hat3
      obtain ⟨A3, c3, hv3⟩ := Kd.R_slice hr3
      subst hv3
      have hgn : some w.heap.size ≠ (Value.slice Ak i ck).ownBlock := Kd.R_ne HI2.out.spans HI2.out.chunk (by decide)
      have g3 := (hg3.block w.heap.size (blk_lt HI2.out.chunk) hgn).trans HI2.out.chunk
      have y33 : w3.cell? ⟨w.heap.size, 3, none⟩ = some (.slice Ak i ck) := cell_blk g3 rfl
      have fr3 : w3.frozen? ⟨w.heap.size, 3, none⟩ = false := frozen_of_row _ _ _ _ _ g3
      have HR3 := Aside0.mk hr3
      have HB3 := Aside0.mk hb3
      have HG3 := Aside0.mk hg3
      have G3 := Aside0.mk g3
      clear hr3 hb3 hg3 g3 hat3 hgn y32
      refine hK.out _ _ ?_
      clear hK K
      refine norm_ (a' := ?_) ?_ ?_
      rotate_left
      · show Act.put _ (some 44) _ = _
        simp only [Act.put, List.setIfInBounds_toArray, List.set_cons_zero, List.set_cons_succ, i64_w, i32_w]
        rfl
      refine pure_ (i := 9) (N := some 45) (v := ?_) (a' := ?_) #[true, true, true, true, true, true, true, true, true, true, false] rfl rfl (by kernel_rfl) (fun _ _ _ h => h) (Or.inl ⟨by rfl, ?_⟩) ?_ ?_
      rotate_left
      · intro w'
        go_simp
        with_reducible rfl
      rotate_left
      · simp only [Act.put, List.setIfInBounds_toArray, List.set_cons_zero, List.set_cons_succ, i64_w, i32_w]
        rfl
      refine last_ (i := 10) (N := none) #[true, true, true, true, true, true, true, true, true, true, true] rfl rfl (by kernel_rfl) (by decide) (fun K hK => ?_)
      refine skip_ (w1 := ?_) (by rfl) rfl ?_ ?_
      rotate_left
      · go_simp
        rfl
      refine hK.out _ _ ?_
      clear hK K
      refine done_ (by kernel_rfl) ?_

      clear y3 y33 fr3
      have hr3s : Kd.R k45 45 w3 w.heap.size (fun _ => True) (.slice A3 ((spansF sides ats i).length + 1) c3) (spansF sides ats (i + 1)) := by
        rw [spansF_succ HN.out hlt, HFF.out, HTT.out]
        have := HR3.out
        rw [List.length_append, List.length_singleton] at this
        exact this
      have HI4 := Aside0.mk (HI2.out.lay HG3.out HB3.out hr3s HGL.out HGSL.out HBW.out)
      obtain ⟨w4, hw4⟩ : ∃ w4, w3.setCell ⟨w.heap.size, 3, none⟩ (.slice A3 ((spansF sides ats i).length + 1) c3) = w4 := ⟨_, rfl⟩
      rw [hw4] at HI4 ⊢
      clear hr3s hw4
      obtain ⟨sb, hsb⟩ : ∃ sb, someB base0 base sides ats i = sb := ⟨_, rfl⟩
      have HSB := Aside0.mk hsb
      rw [hsb]
      clear hsb
      cases sb with
      | true =>
        · skip
          have y1 : w4.cell? ⟨g, 1, none⟩ = some (.slice (some ⟨gs, 0, none⟩) sides.length sides.length) := cell_blk HI4.out.2.1 rfl
          go_wp2
          refine start_ (n := 10) (S := fun w' => w'.cell? ⟨g, 1, none⟩ = some (.slice (some ⟨gs, 0, none⟩) sides.length sides.length)) (ds := [9]) #[false, false, false, false, false, false, false, false, false, false] (by kernel_rfl) rfl rfl (y1) (fun hHeld => ?_)
          refine pure_ (i := 0) (N := some 54) (v := ?_) (a' := ?_) #[true, false, false, false, false, false, false, false, false, false] rfl rfl (by kernel_rfl) (fun _ _ _ h => h) (Or.inl ⟨by rfl, ?_⟩) ?_ ?_
          rotate_left
          · intro w'
            go_simp
            with_reducible rfl
          rotate_left
          · simp only [Act.put, List.setIfInBounds_toArray, List.set_cons_zero, List.set_cons_succ, i64_w, i32_w]
            rfl
          refine pure_ (i := 1) (N := some 55) (v := ?_) (a' := ?_) #[true, true, false, false, false, false, false, false, false, false] rfl rfl (by kernel_rfl) (fun _ _ _ h => h) (Or.inl ⟨by rfl, ?_⟩) ?_ ?_
          rotate_left
          · intro w'
            go_simp
            with_reducible rfl
          rotate_left
          · simp only [Act.put, List.setIfInBounds_toArray, List.set_cons_zero, List.set_cons_succ, i64_w, i32_w]
            rfl
          refine pure_ (i := 2) (N := some 56) (v := ?_) (a' := ?_) #[true, true, true, false, false, false, false, false, false, false] rfl rfl (by kernel_rfl) (fun _ _ _ h => h) (Or.inl ⟨by rfl, ?_⟩) ?_ ?_
          rotate_left
          · intro w'
            go_simp
            with_reducible rfl
          rotate_left
          · simp only [Act.put, List.setIfInBounds_toArray, List.set_cons_zero, List.set_cons_succ, i64_w, i32_w]
            rfl
          refine pure_ (i := 4) (N := some 58) (v := ?_) (a' := ?_) #[true, true, true, false, true, false, false, false, false, false] rfl rfl (by kernel_rfl) (fun _ _ _ h => h) (Or.inl ⟨by rfl, ?_⟩) ?_ ?_
          rotate_left
          · intro w'
            go_simp
            with_reducible rfl
          rotate_left
          · simp only [Act.put, List.setIfInBounds_toArray, List.set_cons_zero, List.set_cons_succ, i64_w, i32_w]
            rfl
          refine pure_ (i := 5) (N := some 59) (v := ?_) (a' := ?_) #[true, true, true, false, true, true, false, false, false, false] rfl rfl (by kernel_rfl) (fun _ _ _ h => h) (Or.inl ⟨by rfl, ?_⟩) ?_ ?_
          rotate_left
          · intro w'
            go_simp
            with_reducible rfl
          rotate_left
          · simp only [Act.put, List.setIfInBounds_toArray, List.set_cons_zero, List.set_cons_succ, i64_w, i32_w]
            rfl
          refine pure_ (i := 6) (N := some 60) (v := ?_) (a' := ?_) #[true, true, true, false, true, true, true, false, false, false] rfl rfl (by kernel_rfl) (fun _ _ _ h => h) (Or.inl ⟨by rfl, ?_⟩) ?_ ?_
          rotate_left
          · intro w'
            go_simp
            with_reducible rfl
          rotate_left
          · simp only [Act.put, List.setIfInBounds_toArray, List.set_cons_zero, List.set_cons_succ, i64_w, i32_w]
            rfl
          refine take_ (i := 3) (N := some 57) (v := ?_) (a' := ?_) #[true, true, true, true, true, true, true, false, false, false] rfl rfl (by kernel_rfl) (fun _ _ _ h => h) (Or.inl ⟨by rfl, ?_⟩) hHeld ?_ ?_
          rotate_left
          · intro w' s0
            go_simp
            with_reducible rfl
          rotate_left
          · simp only [Act.put, List.setIfInBounds_toArray, List.set_cons_zero, List.set_cons_succ, i64_w, i32_w]
            rfl
          refine one_ (i := 7) (N := some 61) #[true, true, true, true, true, true, true, true, false, false] rfl rfl (by kernel_rfl) (by decide) (fun K hK => ?_)
          refine goesC_ Tryz.func76 (by kernel_rfl) rfl #[.pointer (some ⟨g1, 0, none⟩), .pointer (some ⟨g2, 0, none⟩)] #[.int .i64 (i : Int), .pointer (some ⟨g1, 0, none⟩), .pointer (some ⟨g2, 0, none⟩)] (by rfl) rfl rfl (by rfl) (by simp only [List.map_toArray, List.map_cons, List.map_nil]; rfl) ?_
          with_reducible refine (HATI.out w4.drew (HI4.out.keeps.below (Below.refl _ _).drew)).mono ?_
          rintro e w7' ⟨rfl, n7, hn7⟩
          obtain ⟨w7, hw7⟩ : ∃ w7, w7 = w7' := ⟨_, rfl⟩
          rw [← hw7]
          rw [← hw7] at hn7
          clear hw7
          refine ⟨_, rfl, ?_⟩
          have HB7 : Aside0 (Below w4.heap.size w4 w7) := ⟨by rw [hn7]; exact pw_below_drewN (Below.refl _ _).drew n7⟩
          clear hn7
          have HI7 := Aside0.mk (HI4.out.below HB7.out (Nat.le_trans HBW.out HI4.out.keeps.1))
          have y17 : w7.cell? ⟨g, 1, none⟩ = some (.slice (some ⟨gs, 0, none⟩) sides.length sides.length) := cell_blk HI7.out.2.1 rfl
          have x7 : w7.cell? ⟨gs, i, none⟩ = some (.int .i64 f) := by rw [← HFF.out]; exact HI7.out.side hlt HN.out
          have fr7 : w7.frozen? ⟨gs, i, none⟩ = false := frozen_of_row _ _ _ _ _ HI7.out.2.2.1
          refine hK.out _ _ (y17) (fun hHeld => ?_)
          clear hK K
          refine norm_ (a' := ?_) ?_ ?_
          rotate_left
          · show Act.put _ (some 61) _ = _
            simp only [Act.put, List.setIfInBounds_toArray, List.set_cons_zero, List.set_cons_succ, i64_w, i32_w]
            rfl
          refine pure_ (i := 8) (N := some 62) (v := ?_) (a' := ?_) #[true, true, true, true, true, true, true, true, true, false] rfl rfl (by kernel_rfl) (fun _ _ _ h => h) (Or.inl ⟨by rfl, ?_⟩) ?_ ?_
          rotate_left
          · intro w'
            go_simp
            with_reducible rfl
          rotate_left
          · simp only [Act.put, List.setIfInBounds_toArray, List.set_cons_zero, List.set_cons_succ, i64_w, i32_w]
            rfl
          refine last_ (i := 9) (N := none) #[true, true, true, true, true, true, true, true, true, true] rfl rfl (by kernel_rfl) (by decide) (fun K hK => ?_)
          refine skip_ (w1 := ?_) (by rfl) rfl ?_ ?_
          rotate_left
          · go_simp
            rfl
          refine hK.out _ _ ?_
          clear hK K
          refine done_ (by kernel_rfl) ?_

          clear y1 y17 x7 fr7
          go_wp2
          go_roundw
          case measure => simp [intOf]; omega
          case rel => exact ⟨i + 1, _, by rw [someB_succ HN.out hlt, HSB.out, HFF.out, HTT.out]; rfl, by go_num, by omega, ⟨by rw [← HTT.out]; exact HI7.out.move hlt HN.out HGL.out HGSL.out h4 HNE.out⟩⟩
      | false =>
        · go_wp2_with fail
          refine (HATI.out w4 HI4.out.keeps).mono ?_
          rintro e w5' ⟨rfl, n5, hn5⟩
          obtain ⟨w5, hw5⟩ : ∃ w5, w5 = w5' := ⟨_, rfl⟩
          rw [← hw5]
          rw [← hw5] at hn5
          clear hw5
          have HB5 : Aside0 (Below w4.heap.size w4 w5) := ⟨by rw [hn5]; exact pw_below_drewN (Below.refl _ _) n5⟩
          have HI5 := Aside0.mk (HI4.out.below HB5.out (Nat.le_trans HBW.out HI4.out.keeps.1))
          clear hn5
          have y1 : w5.cell? ⟨g, 1, none⟩ = some (.slice (some ⟨gs, 0, none⟩) sides.length sides.length) := cell_blk HI5.out.2.1 rfl
          go_wp2
          refine start_ (n := 10) (S := fun w' => w'.cell? ⟨g, 1, none⟩ = some (.slice (some ⟨gs, 0, none⟩) sides.length sides.length)) (ds := [9]) #[false, false, false, false, false, false, false, false, false, false] (by kernel_rfl) rfl rfl (y1) (fun hHeld => ?_)
          refine pure_ (i := 0) (N := some 54) (v := ?_) (a' := ?_) #[true, false, false, false, false, false, false, false, false, false] rfl rfl (by kernel_rfl) (fun _ _ _ h => h) (Or.inl ⟨by rfl, ?_⟩) ?_ ?_
          rotate_left
          · intro w'
            go_simp
            with_reducible rfl
          rotate_left
          · simp only [Act.put, List.setIfInBounds_toArray, List.set_cons_zero, List.set_cons_succ, i64_w, i32_w]
            rfl
          refine pure_ (i := 1) (N := some 55) (v := ?_) (a' := ?_) #[true, true, false, false, false, false, false, false, false, false] rfl rfl (by kernel_rfl) (fun _ _ _ h => h) (Or.inl ⟨by rfl, ?_⟩) ?_ ?_
          rotate_left
          · intro w'
            go_simp
            with_reducible rfl
          rotate_left
          · simp only [Act.put, List.setIfInBounds_toArray, List.set_cons_zero, List.set_cons_succ, i64_w, i32_w]
            rfl
          refine pure_ (i := 2) (N := some 56) (v := ?_) (a' := ?_) #[true, true, true, false, false, false, false, false, false, false] rfl rfl (by kernel_rfl) (fun _ _ _ h => h) (Or.inl ⟨by rfl, ?_⟩) ?_ ?_
          rotate_left
          · intro w'
            go_simp
            with_reducible rfl
          rotate_left
          · simp only [Act.put, List.setIfInBounds_toArray, List.set_cons_zero, List.set_cons_succ, i64_w, i32_w]
            rfl
          refine pure_ (i := 4) (N := some 58) (v := ?_) (a' := ?_) #[true, true, true, false, true, false, false, false, false, false] rfl rfl (by kernel_rfl) (fun _ _ _ h => h) (Or.inl ⟨by rfl, ?_⟩) ?_ ?_
          rotate_left
          · intro w'
            go_simp
            with_reducible rfl
          rotate_left
          · simp only [Act.put, List.setIfInBounds_toArray, List.set_cons_zero, List.set_cons_succ, i64_w, i32_w]
            rfl
          refine pure_ (i := 5) (N := some 59) (v := ?_) (a' := ?_) #[true, true, true, false, true, true, false, false, false, false] rfl rfl (by kernel_rfl) (fun _ _ _ h => h) (Or.inl ⟨by rfl, ?_⟩) ?_ ?_
          rotate_left
          · intro w'
            go_simp
            with_reducible rfl
          rotate_left
          · simp only [Act.put, List.setIfInBounds_toArray, List.set_cons_zero, List.set_cons_succ, i64_w, i32_w]
            rfl
          refine pure_ (i := 6) (N := some 60) (v := ?_) (a' := ?_) #[true, true, true, false, true, true, true, false, false, false] rfl rfl (by kernel_rfl) (fun _ _ _ h => h) (Or.inl ⟨by rfl, ?_⟩) ?_ ?_
          rotate_left
          · intro w'
            go_simp
            with_reducible rfl
          rotate_left
          · simp only [Act.put, List.setIfInBounds_toArray, List.set_cons_zero, List.set_cons_succ, i64_w, i32_w]
            rfl
          refine take_ (i := 3) (N := some 57) (v := ?_) (a' := ?_) #[true, true, true, true, true, true, true, false, false, false] rfl rfl (by kernel_rfl) (fun _ _ _ h => h) (Or.inl ⟨by rfl, ?_⟩) hHeld ?_ ?_
          rotate_left
          · intro w' s0
            go_simp
            with_reducible rfl
          rotate_left
          · simp only [Act.put, List.setIfInBounds_toArray, List.set_cons_zero, List.set_cons_succ, i64_w, i32_w]
            rfl
          refine one_ (i := 7) (N := some 61) #[true, true, true, true, true, true, true, true, false, false] rfl rfl (by kernel_rfl) (by decide) (fun K hK => ?_)
          refine goesC_ Tryz.func76 (by kernel_rfl) rfl #[.pointer (some ⟨g1, 0, none⟩), .pointer (some ⟨g2, 0, none⟩)] #[.int .i64 (i : Int), .pointer (some ⟨g1, 0, none⟩), .pointer (some ⟨g2, 0, none⟩)] (by rfl) rfl rfl (by rfl) (by simp only [List.map_toArray, List.map_cons, List.map_nil]; rfl) ?_
          with_reducible refine (HATI.out w5.drew (HI5.out.keeps.below (Below.refl _ _).drew)).mono ?_
          rintro e w7' ⟨rfl, n7, hn7⟩
          obtain ⟨w7, hw7⟩ : ∃ w7, w7 = w7' := ⟨_, rfl⟩
          rw [← hw7]
          rw [← hw7] at hn7
          clear hw7
          refine ⟨_, rfl, ?_⟩
          have HB7 : Aside0 (Below w5.heap.size w5 w7) := ⟨by rw [hn7]; exact pw_below_drewN (Below.refl _ _).drew n7⟩
          clear hn7
          have HI7 := Aside0.mk (HI5.out.below HB7.out (Nat.le_trans HBW.out HI5.out.keeps.1))
          have y17 : w7.cell? ⟨g, 1, none⟩ = some (.slice (some ⟨gs, 0, none⟩) sides.length sides.length) := cell_blk HI7.out.2.1 rfl
          have x7 : w7.cell? ⟨gs, i, none⟩ = some (.int .i64 f) := by rw [← HFF.out]; exact HI7.out.side hlt HN.out
          have fr7 : w7.frozen? ⟨gs, i, none⟩ = false := frozen_of_row _ _ _ _ _ HI7.out.2.2.1
          refine hK.out _ _ (y17) (fun hHeld => ?_)
          clear hK K
          refine norm_ (a' := ?_) ?_ ?_
          rotate_left
          · show Act.put _ (some 61) _ = _
            simp only [Act.put, List.setIfInBounds_toArray, List.set_cons_zero, List.set_cons_succ, i64_w, i32_w]
            rfl
          refine pure_ (i := 8) (N := some 62) (v := ?_) (a' := ?_) #[true, true, true, true, true, true, true, true, true, false] rfl rfl (by kernel_rfl) (fun _ _ _ h => h) (Or.inl ⟨by rfl, ?_⟩) ?_ ?_
          rotate_left
          · intro w'
            go_simp
            with_reducible rfl
          rotate_left
          · simp only [Act.put, List.setIfInBounds_toArray, List.set_cons_zero, List.set_cons_succ, i64_w, i32_w]
            rfl
          refine last_ (i := 9) (N := none) #[true, true, true, true, true, true, true, true, true, true] rfl rfl (by kernel_rfl) (by decide) (fun K hK => ?_)
          refine skip_ (w1 := ?_) (by rfl) rfl ?_ ?_
          rotate_left
          · go_simp
            rfl
          refine hK.out _ _ ?_
          clear hK K
          refine done_ (by kernel_rfl) ?_

          clear y1 y17 x7 fr7
          go_wp2
          go_roundw
          case measure => simp [intOf]; omega
          case rel => exact ⟨i + 1, _, by rw [someB_succ HN.out hlt, HSB.out, HFF.out, HTT.out]; simp, by go_num, by omega, ⟨by rw [← HTT.out]; exact HI7.out.move hlt HN.out HGL.out HGSL.out h4 HNE.out⟩⟩
    · have hin : i = sides.length := by omega
      subst hin
      have d1 : decide ((sides.length : Int) < (sides.length : Int)) = false := decide_eq_false (by omega)
      have HS : Aside0 (Kd.S k48 48 wr B (fun k => k < w.heap.size) vo out) := ⟨out_keep H5.out H1.out H3.out HI.out.keeps⟩
      obtain ⟨Ao, co, hvo⟩ := Kd.S_slice HS.out
      subst hvo
      obtain ⟨Ak, ck, hvk⟩ := Kd.R_slice HI.out.spans
      have hsl := spansF_len (i := sides.length) HN.out (Nat.le_refl _)
      obtain ⟨sb, hsb⟩ : ∃ sb, someB base0 base sides ats sides.length = sb := ⟨_, rfl⟩
      have HSB := Aside0.mk hsb
      rw [hsb]
      clear hsb
      cases sb with
      | false =>
        · have HO : Aside0 (cutOut stable base0 base sides ats out = out) := ⟨by rw [cutOut, HSB.out, if_neg (by decide)]⟩
          have e0 : wr.cell? ⟨g, 0, none⟩ = some (.int .i64 base0) := cell_blk HI.out.2.1 rfl
          have f0 : wr.frozen? ⟨g, 0, none⟩ = false := frozen_of_row _ _ _ _ _ HI.out.2.1
          clear hsl hvk
          go_wp2
          go_end0
          exact ⟨rfl, ⟨by rw [HO.out]; exact cut_done HI.out.2.1 HI.out.2.2.1 (Kd.S_mono HS.out (fun _ _ => trivial)) HI.out.bel h2 h4 HNE.out HN.out⟩, ⟨(HI.out.keeps.set 0 _).toC⟩⟩
      | true =>
        · have HO : Aside0 (cutOut stable base0 base sides ats out = out ++ [⟨stable, ⟨base0, base⟩, spansF sides ats sides.length⟩]) := ⟨by rw [cutOut, HSB.out, if_pos rfl]⟩
          have HVK := Aside0.mk hvk
          have hchunk := HI.out.chunk
          rw [hvk, hsl] at hchunk
          have y2 : wr.cell? ⟨g, 2, none⟩ = some (.slice Ao out.length co) := cell_blk HI.out.2.1 rfl
          have z0 : wr.cell? ⟨w.heap.size, 0, none⟩ = some (.bool stable) := cell_blk hchunk rfl
          have z1 : wr.cell? ⟨w.heap.size, 1, none⟩ = some (.int .i64 base0) := cell_blk hchunk rfl
          have z2 : wr.cell? ⟨w.heap.size, 2, none⟩ = some (.int .i64 base) := cell_blk hchunk rfl
          have z3 : wr.cell? ⟨w.heap.size, 3, none⟩ = some (.slice Ak sides.length ck) := cell_blk hchunk rfl
          have HP : Aside0 (Kd.R k45 45 wr B (fun k => w.heap.size ≤ k) (.slice Ak sides.length ck) (spansF sides ats sides.length)) := ⟨by
            have := HI.out.spans
            rw [hvk, hsl] at this
            exact Kd.R_lower (Kd.R_mono (Kd.R_bound this) (fun k hk => hk.2.1)) HBW.out⟩
          have HPM : Aside0 ((k48).M wr.drew B (fun k => w.heap.size ≤ k) ⟨stable, ⟨base0, base⟩, spansF sides ats sides.length⟩ [.bool stable, .int .i64 base0, .int .i64 base, .slice Ak sides.length ck]) := ⟨k48_mkM _ _ _ ⟨stable, ⟨base0, base⟩, spansF sides ats sides.length⟩ (Kd.R_drew HP.out)⟩
          clear hsl hvk hchunk
          go_wp2
          refine start_ (n := 11) (S := fun w' => w'.cell? ⟨g, 2, none⟩ = some (.slice Ao out.length co) ∧ w'.cell? ⟨w.heap.size, 0, none⟩ = some (.bool stable) ∧ w'.cell? ⟨w.heap.size, 1, none⟩ = some (.int .i64 base0) ∧ w'.cell? ⟨w.heap.size, 2, none⟩ = some (.int .i64 base) ∧ w'.cell? ⟨w.heap.size, 3, none⟩ = some (.slice Ak sides.length ck)) (ds := [7, 10]) #[false, false, false, false, false, false, false, false, false, false, false] (by kernel_rfl) rfl rfl ⟨y2, z0, z1, z2, z3⟩ (fun hHeld => ?_)
          refine pure_ (i := 0) (N := some 65) (v := ?_) (a' := ?_) #[true, false, false, false, false, false, false, false, false, false, false] rfl rfl (by kernel_rfl) (fun _ _ _ h => h) (Or.inl ⟨by rfl, ?_⟩) ?_ ?_
          rotate_left
          · intro w'
            go_simp
            with_reducible rfl
          rotate_left
          · simp only [Act.put, List.setIfInBounds_toArray, List.set_cons_zero, List.set_cons_succ, i64_w, i32_w]
            rfl
          refine pure_ (i := 1) (N := some 66) (v := ?_) (a' := ?_) #[true, true, false, false, false, false, false, false, false, false, false] rfl rfl (by kernel_rfl) (fun _ _ _ h => h) (Or.inl ⟨by rfl, ?_⟩) ?_ ?_
          rotate_left
          · intro w'
            go_simp
            with_reducible rfl
          rotate_left
          · simp only [Act.put, List.setIfInBounds_toArray, List.set_cons_zero, List.set_cons_succ, i64_w, i32_w]
            rfl
          refine pure_ (i := 2) (N := some 67) (v := ?_) (a' := ?_) #[true, true, true, false, false, false, false, false, false, false, false] rfl rfl (by kernel_rfl) (fun _ _ _ h => h) (Or.inl ⟨by rfl, ?_⟩) ?_ ?_
          rotate_left
          · intro w'
            go_simp
            with_reducible rfl
          rotate_left
          · simp only [Act.put, List.setIfInBounds_toArray, List.set_cons_zero, List.set_cons_succ, i64_w, i32_w]
            rfl
          refine pure_ (i := 3) (N := some 68) (v := ?_) (a' := ?_) #[true, true, true, true, false, false, false, false, false, false, false] rfl rfl (by kernel_rfl) (fun _ _ _ h => h) (Or.inl ⟨by rfl, ?_⟩) ?_ ?_
          rotate_left
          · intro w'
            go_simp
            with_reducible rfl
          rotate_left
          · simp only [Act.put, List.setIfInBounds_toArray, List.set_cons_zero, List.set_cons_succ, i64_w, i32_w]
            rfl
          refine take_ (i := 4) (N := some 69) (v := ?_) (a' := ?_) #[true, true, true, true, true, false, false, false, false, false, false] rfl rfl (by kernel_rfl) (fun _ _ _ h => h) (Or.inl ⟨by rfl, ?_⟩) hHeld ?_ ?_
          rotate_left
          · rintro w' ⟨s0, s1, s2, s3, s4⟩
            go_simp
            with_reducible rfl
          rotate_left
          · simp only [Act.put, List.setIfInBounds_toArray, List.set_cons_zero, List.set_cons_succ, i64_w, i32_w]
            rfl
          refine take_ (i := 5) (N := some 70) (v := ?_) (a' := ?_) #[true, true, true, true, true, true, false, false, false, false, false] rfl rfl (by kernel_rfl) (fun _ _ _ h => h) (Or.inl ⟨by rfl, ?_⟩) hHeld ?_ ?_
          rotate_left
          · rintro w' ⟨s0, s1, s2, s3, s4⟩
            go_simp
            with_reducible rfl
          rotate_left
          · simp only [Act.put, List.setIfInBounds_toArray, List.set_cons_zero, List.set_cons_succ, i64_w, i32_w]
            rfl
          refine one_ (i := 6) (N := some 71) #[true, true, true, true, true, true, true, false, false, false, false] rfl rfl (by kernel_rfl) (by decide) (fun K hK => ?_)
          refine value_ (w1 := ?_) (v := ?_) (by rfl) rfl ?_ ?_
          rotate_left 2
          · go_simp
            constructor
            · rfl
            · rfl
          refine hK.out _ _ ⟨cell_alloc_of y2 _, cell_alloc_of z0 _, cell_alloc_of z1 _, cell_alloc_of z2 _, cell_alloc_of z3 _⟩ (fun hHeld => ?_)
          clear hK K
          refine norm_ (a' := ?_) ?_ ?_
          rotate_left
          · show Act.put _ (some 71) _ = _
            simp only [Act.put, List.setIfInBounds_toArray, List.set_cons_zero, List.set_cons_succ, i64_w, i32_w]
            rfl
          refine last_ (i := 7) (N := some 72) #[true, true, true, true, true, true, true, true, false, false, false] rfl rfl (by kernel_rfl) (by decide) (fun K hK => ?_)
          refine Kd.S_append_step k48 (w0 := wr.drew) (W := wr.drew) B (by rfl) (.tmp 69) (.tmp 71) 26 48 (.agg #[.bool false, .int .i64 0, .int .i64 0, .slice none 0 0]) 48 rfl Tryz.underlying26 info48 rfl (by decide) (by decide) (.slice Ao out.length co) out ⟨stable, ⟨base0, base⟩, spansF sides ats sides.length⟩ [.bool stable, .int .i64 base0, .int .i64 base, .slice Ak sides.length ck] (fun _ => True) (fun k => w.heap.size ≤ k) rfl rfl HPM.out (fun k hk => ⟨trivial, Kd.S_away HS.out (fun j hj => by omega)⟩) (fun _ _ => trivial) ?aO (Below.refl _ _) ?aS (by omega) ?_
          (case aO => exact Kd.S_mono (Kd.S_drew HS.out) (fun k hk => ⟨trivial, by omega⟩))
          (case aS => exact Nat.le_trans HBW.out HI.out.keeps.1)
          intro v9 w9 hs9 hb9 hg9 hat9
          obtain ⟨A9, c9, hv9⟩ := Kd.S_slice hs9
          subst hv9
          have hgn : some g ≠ (Value.slice Ao out.length co).ownBlock := Kd.S_ne HS.out HI.out.2.1 (by decide)
          have g9 : w9.heap[g]? = some (.cells #[.int .i64 base0, .slice (some ⟨gs, 0, none⟩) sides.length sides.length, .slice Ao out.length co] 126 (0, 0)) := (hg9.block g (blk_lt HI.out.2.1) hgn).trans HI.out.2.1
          have y29 : w9.cell? ⟨g, 2, none⟩ = some (.slice Ao out.length co) := cell_blk g9 rfl
          have fr9 : w9.frozen? ⟨g, 2, none⟩ = false := frozen_of_row _ _ _ _ _ g9
          have HS9 := Aside0.mk hs9
          have HB9 := Aside0.mk hb9
          have HG9 := Aside0.mk hg9
          have G9 := Aside0.mk g9
          clear hs9 hb9 hg9 g9 hat9 hgn
          refine hK.out _ _ ?_
          clear hK K
          refine norm_ (a' := ?_) ?_ ?_
          rotate_left
          · show Act.put _ (some 72) _ = _
            simp only [Act.put, List.setIfInBounds_toArray, List.set_cons_zero, List.set_cons_succ, i64_w, i32_w]
            rfl
          refine pure_ (i := 8) (N := some 73) (v := ?_) (a' := ?_) #[true, true, true, true, true, true, true, true, true, false, false] rfl rfl (by kernel_rfl) (fun _ _ _ h => h) (Or.inl ⟨by rfl, ?_⟩) ?_ ?_
          rotate_left
          · intro w'
            go_simp
            with_reducible rfl
          rotate_left
          · simp only [Act.put, List.setIfInBounds_toArray, List.set_cons_zero, List.set_cons_succ, i64_w, i32_w]
            rfl
          refine pure_ (i := 9) (N := some 74) (v := ?_) (a' := ?_) #[true, true, true, true, true, true, true, true, true, true, false] rfl rfl (by kernel_rfl) (fun _ _ _ h => h) (Or.inl ⟨by rfl, ?_⟩) ?_ ?_
          rotate_left
          · intro w'
            go_simp
            with_reducible rfl
          rotate_left
          · simp only [Act.put, List.setIfInBounds_toArray, List.set_cons_zero, List.set_cons_succ, i64_w, i32_w]
            rfl
          refine last_ (i := 10) (N := none) #[true, true, true, true, true, true, true, true, true, true, true] rfl rfl (by kernel_rfl) (by decide) (fun K hK => ?_)
          refine skip_ (w1 := ?_) (by rfl) rfl ?_ ?_
          rotate_left
          · go_simp
            rfl
          refine hK.out _ _ ?_
          clear hK K
          refine done_ (by kernel_rfl) ?_

          have hs9' : Kd.S k48 48 w9 B (fun _ => True) (.slice A9 (out.length + 1) c9) (out ++ [⟨stable, ⟨base0, base⟩, spansF sides ats sides.length⟩]) := by
            have := HS9.out
            rw [List.length_append, List.length_singleton] at this
            exact this
          obtain ⟨w10, hw10⟩ : ∃ w10, w9.setCell ⟨g, 2, none⟩ (.slice A9 (out.length + 1) c9) = w10 := ⟨_, rfl⟩
          rw [hw10]
          have G10 : Aside0 (w10.heap[g]? = some (.cells #[.int .i64 base0, .slice (some ⟨gs, 0, none⟩) sides.length sides.length, .slice A9 (out.length + 1) c9] 126 (0, 0))) := ⟨by rw [← hw10, heap_set_same G9.out]; rfl⟩
          have g3 : w10.heap[gs]? = some (.cells ((ats.take sides.length ++ sides.drop sides.length).map (Value.int .i64)).toArray 3 (0, 0)) := by
            rw [← hw10]
            exact set_keepA ((HG9.out.block gs (blk_lt HI.out.2.2.1) (Kd.S_ne HS.out HI.out.2.2.1 (by decide))).trans HI.out.2.2.1) (fun e => HNE.out e.symm) _
          have G3 := Aside0.mk g3
          have S10 : Aside0 (Kd.S k48 48 w10 B (fun _ => True) (.slice A9 (out.length + 1) c9) (out ++ [⟨stable, ⟨base0, base⟩, spansF sides ats sides.length⟩])) := ⟨by rw [← hw10]; exact Kd.S_set hs9' G9.out (by decide) 2 _⟩
          have B10 : Aside0 (Below B w0 w10) := ⟨by rw [← hw10]; exact (HI.out.bel.drew.trans HB9.out).setCell (p := ⟨g, 2, none⟩) h2 _⟩
          have K10 : Aside0 (CKeeps g gs w w10) := ⟨by
            rw [← hw10]
            refine ⟨by have := HG9.out.size; have := HI.out.keeps.1; simp [World.setCell] at *; omega, fun k cs q fr a b hk hq => ?_⟩
            have hkl := (Array.getElem?_eq_some_iff.1 hk).1
            have hkr : wr.heap[k]? = some (.cells cs q fr) := (HI.out.keeps.2 k hkl a b).trans hk
            rw [heap_set_other a]
            refine (HG9.out.block k (blk_lt hkr) (fun e => ?_)).trans hkr
            obtain ⟨cells, hc⟩ := Kd.S_typed HS.out k e.symm
            rw [hkr] at hc
            injection hc with hc
            injection hc with _ e2 _
            exact hq e2⟩
          have e0 : w10.cell? ⟨g, 0, none⟩ = some (.int .i64 base0) := cell_blk G10.out rfl
          have f0 : w10.frozen? ⟨g, 0, none⟩ = false := frozen_of_row _ _ _ _ _ G10.out
          clear g3 hs9' hw10 y2 z0 z1 z2 z3 y29 fr9
          go_wp2
          go_end0
          refine ⟨rfl, ⟨by rw [HO.out]; exact cut_done G10.out G3.out S10.out B10.out h2 h4 HNE.out HN.out⟩, ⟨⟨by have := K10.out.1; simpa [World.setCell] using this, fun k cs q fr a b hk hq => (heap_set_other a _).trans (K10.out.2 k cs q fr a b hk hq)⟩⟩⟩
set_option maxRecDepth 100000 in
set_option maxHeartbeats 8000000 in
theorem cut_to_4 (w0 w : World) (B g gs g1 g2 : Nat) (stable : Bool) (base0 base : Int) (sides ats : List Int) (out : List Chunk) (h : CutIn w0 w B g gs base0 sides out) (hB : B = w0.heap.size) (hn : ats.length = sides.length) (hs : sides.length ≤ 1000) (ho : out.length ≤ 100000)
    (hat : ∀ W', AKeeps g gs w W' → ∀ i, i < sides.length → Calls Tryz.prog 77 #[.int .i64 (i : Int), .pointer (some ⟨g1, 0, none⟩)] W' fun e w'' => e = .returned (.int .i64 (ats.getD i 0)) ∧ Drawn0 W' w'') :
    Calls Tryz.prog 74 #[.pointer (some ⟨g, 0, none⟩), .bool stable, .int .i64 base, .func (.func 77) #[] #[.pointer (some ⟨g1, 0, none⟩)]] w fun e w' => e = .returned (.tuple #[]) ∧ Aside0 (CutIn w0 w' B g gs base ats (cutOut stable base0 base sides ats out)) ∧ Aside0 (CKeeps g gs w w') := by
  obtain ⟨vo, h1, h2, h3, h4, h5, h6⟩ := h
  have H1 := Aside0.mk h1
  have H3 := Aside0.mk h3
  have H5 := Aside0.mk h5
  have H6 := Aside0.mk h6
  have HAT := Aside0.mk hat
  have HN := Aside0.mk hn
  have c0 : w.cell? ⟨g, 0, none⟩ = some (.int .i64 base0) := cell_blk h1 rfl
  have c1 : w.cell? ⟨g, 1, none⟩ = some (.slice (some ⟨gs, 0, none⟩) sides.length sides.length) := cell_blk h1 rfl
  have HBW : Aside0 (B ≤ w.heap.size) := ⟨by rw [hB]; exact H6.out.size⟩
  have HGL : Aside0 (g < w.heap.size) := ⟨blk_lt h1⟩
  have HGSL : Aside0 (gs < w.heap.size) := ⟨blk_lt h3⟩
  have HNE : Aside0 (g ≠ gs) := ⟨blk_neA h1 h3 (by decide)⟩
  have c0o : ∀ o, (w.alloc o).cell? ⟨g, 0, none⟩ = some (.int .i64 base0) := fun o => cell_alloc_of c0 o
  have c1o : ∀ o, (w.alloc o).cell? ⟨g, 1, none⟩ = some (.slice (some ⟨gs, 0, none⟩) sides.length sides.length) := fun o => cell_alloc_of c1 o
  clear h1 h3 h5 h6 hat hn
  go_enter Tryz.func74, Tryz.ntmps74
  go_wp2_with fail
  go_loopw [9, 31] (fun s9 s31 wr => ∃ (i : Nat) (vk : Value), s9 = .bool (someB base0 base sides ats i) ∧ s31 = .int .i64 i ∧ i ≤ sides.length ∧ Aside0 (ToI w0 w wr B g gs stable base0 base sides ats vo i i vk)) (fun _ s31 _ => sides.length - (intOf s31).toNat)
  case atStart =>
    have hb : ∀ o, Below w.heap.size w (w.alloc o) := fun o => (Below.refl _ w).alloc (Nat.le_refl _) o
    exact ⟨0, .slice none 0 0, by simp [someB], rfl, Nat.zero_le _, ⟨(AKeeps.refl g gs w).below (hb _), far_keep H1.out (hb _), by simpa using far_keep H3.out (hb _), blk_new _ _, Kd.R_nil _ _ _ _ _, H6.out.trans ((hb _).mono HBW.out)⟩⟩
  case round =>
    obtain ⟨i, vk, rfl, rfl, hi, HI⟩ := hrel
    by_cases hlt : i < sides.length
    · have d1 : decide ((i : Int) < (sides.length : Int)) = true := decide_eq_true (by omega)
      have d2 : decide (i < sides.length) = true := decide_eq_true hlt
      obtain ⟨Ak, ck, hvk⟩ := Kd.R_slice HI.out.spans
      rw [spansF_len HN.out hi] at hvk
      subst hvk
      have xi := HI.out.side hlt HN.out
      have y3 : wr.cell? ⟨w.heap.size, 3, none⟩ = some (.slice Ak i ck) := cell_blk HI.out.chunk rfl
      obtain ⟨f, hf⟩ : ∃ f, sides.getD i 0 = f := ⟨_, rfl⟩
      obtain ⟨t, ht⟩ : ∃ t, ats.getD i 0 = t := ⟨_, rfl⟩
      have hat := HAT.out
      have HFF := Aside0.mk hf
      have HTT := Aside0.mk ht
      rw [hf] at xi
      have HATI : Aside0 (∀ W', AKeeps g gs w W' → Calls Tryz.prog 77 #[.int .i64 (i : Int), .pointer (some ⟨g1, 0, none⟩)] W' fun e w'' => e = .returned (.int .i64 t) ∧ Drawn0 W' w'') := ⟨fun W' hW => by rw [← ht]; exact hat W' hW i hlt⟩
      have hBr : B ≤ wr.heap.size := Nat.le_trans HBW.out HI.out.keeps.1
      clear hat hf ht
      go_wp2
      refine start_ (n := 11) (S := fun w' => w'.cell? ⟨w.heap.size, 3, none⟩ = some (.slice Ak i ck)) (ds := [8, 10]) #[false, false, false, false, false, false, false, false, false, false, false] (by kernel_rfl) rfl rfl (y3) (fun hHeld => ?_)
      refine pure_ (i := 0) (N := some 36) (v := ?_) (a' := ?_) #[true, false, false, false, false, false, false, false, false, false, false] rfl rfl (by kernel_rfl) (fun _ _ _ h => h) (Or.inl ⟨by rfl, ?_⟩) ?_ ?_
      rotate_left
      · intro w'
        go_simp
        with_reducible rfl
      rotate_left
      · simp only [Act.put, List.setIfInBounds_toArray, List.set_cons_zero, List.set_cons_succ, i64_w, i32_w]
        rfl
      refine pure_ (i := 2) (N := some 38) (v := ?_) (a' := ?_) #[true, false, true, false, false, false, false, false, false, false, false] rfl rfl (by kernel_rfl) (fun _ _ _ h => h) (Or.inl ⟨by rfl, ?_⟩) ?_ ?_
      rotate_left
      · intro w'
        go_simp
        with_reducible rfl
      rotate_left
      · simp only [Act.put, List.setIfInBounds_toArray, List.set_cons_zero, List.set_cons_succ, i64_w, i32_w]
        rfl
      refine pure_ (i := 3) (N := some 39) (v := ?_) (a' := ?_) #[true, false, true, true, false, false, false, false, false, false, false] rfl rfl (by kernel_rfl) (fun _ _ _ h => h) (Or.inl ⟨by rfl, ?_⟩) ?_ ?_
      rotate_left
      · intro w'
        go_simp
        with_reducible rfl
      rotate_left
      · simp only [Act.put, List.setIfInBounds_toArray, List.set_cons_zero, List.set_cons_succ, i64_w, i32_w]
        rfl
      refine pure_ (i := 4) (N := some 40) (v := ?_) (a' := ?_) #[true, false, true, true, true, false, false, false, false, false, false] rfl rfl (by kernel_rfl) (fun _ _ _ h => h) (Or.inl ⟨by rfl, ?_⟩) ?_ ?_
      rotate_left
      · intro w'
        go_simp
        with_reducible rfl
      rotate_left
      · simp only [Act.put, List.setIfInBounds_toArray, List.set_cons_zero, List.set_cons_succ, i64_w, i32_w]
        rfl
      refine take_ (i := 1) (N := some 37) (v := ?_) (a' := ?_) #[true, true, true, true, true, false, false, false, false, false, false] rfl rfl (by kernel_rfl) (fun _ _ _ h => h) (Or.inl ⟨by rfl, ?_⟩) hHeld ?_ ?_
      rotate_left
      · intro w' s0
        go_simp
        with_reducible rfl
      rotate_left
      · simp only [Act.put, List.setIfInBounds_toArray, List.set_cons_zero, List.set_cons_succ, i64_w, i32_w]
        rfl
      refine one_ (i := 5) (N := some 41) #[true, true, true, true, true, true, false, false, false, false, false] rfl rfl (by kernel_rfl) (by decide) (fun K hK => ?_)
      refine goesC_ Tryz.func77 (by kernel_rfl) rfl #[.pointer (some ⟨g1, 0, none⟩)] #[.int .i64 (i : Int), .pointer (some ⟨g1, 0, none⟩)] (by rfl) rfl rfl (by rfl) (by simp only [List.map_toArray, List.map_cons, List.map_nil]; rfl) ?_
      with_reducible refine (HATI.out wr.drew (HI.out.keeps.below (Below.refl _ _).drew)).mono ?_
      rintro e w2' ⟨rfl, n2, hn2⟩
      obtain ⟨w2, hw2⟩ : ∃ w2, w2 = w2' := ⟨_, rfl⟩
      rw [← hw2]
      rw [← hw2] at hn2
      clear hw2
      refine ⟨_, rfl, ?_⟩
      have HB2 : Aside0 (Below wr.heap.size wr w2) := ⟨by rw [hn2]; exact pw_below_drewN (Below.refl _ _).drew n2⟩
      clear hn2
      have HI2 := Aside0.mk (HI.out.below HB2.out hBr)
      have y32 : w2.cell? ⟨w.heap.size, 3, none⟩ = some (.slice Ak i ck) := cell_blk HI2.out.chunk rfl
      refine hK.out _ _ (y32) (fun hHeld => ?_)
      clear hK K
      refine norm_ (a' := ?_) ?_ ?_
      rotate_left
      · show Act.put _ (some 41) _ = _
        simp only [Act.put, List.setIfInBounds_toArray, List.set_cons_zero, List.set_cons_succ, i64_w, i32_w]
        rfl
      refine pure_ (i := 6) (N := some 42) (v := ?_) (a' := ?_) #[true, true, true, true, true, true, true, false, false, false, false] rfl rfl (by kernel_rfl) (fun _ _ _ h => h) (Or.inl ⟨by rfl, ?_⟩) ?_ ?_
      rotate_left
      · intro w'
        go_simp
        with_reducible rfl
      rotate_left
      · simp only [Act.put, List.setIfInBounds_toArray, List.set_cons_zero, List.set_cons_succ, i64_w, i32_w]
        rfl
      refine one_ (i := 7) (N := some 43) #[true, true, true, true, true, true, true, true, false, false, false] rfl rfl (by kernel_rfl) (by decide) (fun K hK => ?_)
      refine value_ (w1 := ?_) (v := ?_) (by rfl) rfl ?_ ?_
      rotate_left 2
      · go_simp
        constructor
        · rfl
        · rfl
      refine hK.out _ _ (cell_alloc_of y32 _) (fun hHeld => ?_)
      clear hK K
      refine norm_ (a' := ?_) ?_ ?_
      rotate_left
      · show Act.put _ (some 43) _ = _
        simp only [Act.put, List.setIfInBounds_toArray, List.set_cons_zero, List.set_cons_succ, i64_w, i32_w]
        rfl
      refine last_ (i := 8) (N := some 44) #[true, true, true, true, true, true, true, true, true, false, false] rfl rfl (by kernel_rfl) (by decide) (fun K hK => ?_)
      refine Kd.R_append_step k45 (w0 := w2) w.heap.size (by rfl) (.tmp 37) (.tmp 43) 46 45 (.agg #[.int .i64 0, .int .i64 0]) 16 rfl Tryz.underlying46 info45 rfl (by decide) (by decide) (.slice Ak i ck) (spansF sides ats i) ⟨f, t⟩ [.int .i64 f, .int .i64 t] (fun _ => True) (fun _ => False) rfl rfl (k45_mkM _ _ _ _) (fun _ h => h.elim) (fun _ _ => trivial) ?aO (Below.refl _ _) HI2.out.keeps.1 (by rw [spansF_len HN.out hi]; omega) ?_
      (case aO => exact HI2.out.spans)
      intro v3 w3 hr3 hb3 hg3 hat3
      obtain ⟨A3, c3, hv3⟩ := Kd.R_slice hr3
      subst hv3
      have hgn : some w.heap.size ≠ (Value.slice Ak i ck).ownBlock := Kd.R_ne HI2.out.spans HI2.out.chunk (by decide)
      have g3 := (hg3.block w.heap.size (blk_lt HI2.out.chunk) hgn).trans HI2.out.chunk
      have y33 : w3.cell? ⟨w.heap.size, 3, none⟩ = some (.slice Ak i ck) := cell_blk g3 rfl
      have fr3 : w3.frozen? ⟨w.heap.size, 3, none⟩ = false := frozen_of_row _ _ _ _ _ g3
      have HR3 := Aside0.mk hr3
      have HB3 := Aside0.mk hb3
      have HG3 := Aside0.mk hg3
      have G3 := Aside0.mk g3
      clear hr3 hb3 hg3 g3 hat3 hgn y32
      refine hK.out _ _ ?_
      clear hK K
      refine norm_ (a' := ?_) ?_ ?_
      rotate_left
      · show Act.put _ (some 44) _ = _
        simp only [Act.put, List.setIfInBounds_toArray, List.set_cons_zero, List.set_cons_succ, i64_w, i32_w]
        rfl
      refine pure_ (i := 9) (N := some 45) (v := ?_) (a' := ?_) #[true, true, true, true, true, true, true, true, true, true, false] rfl rfl (by kernel_rfl) (fun _ _ _ h => h) (Or.inl ⟨by rfl, ?_⟩) ?_ ?_
      rotate_left
      · intro w'
        go_simp
        with_reducible rfl
      rotate_left
      · simp only [Act.put, List.setIfInBounds_toArray, List.set_cons_zero, List.set_cons_succ, i64_w, i32_w]
        rfl
      refine last_ (i := 10) (N := none) #[true, true, true, true, true, true, true, true, true, true, true] rfl rfl (by kernel_rfl) (by decide) (fun K hK => ?_)
      refine skip_ (w1 := ?_) (by rfl) rfl ?_ ?_
      rotate_left
      · go_simp
        rfl
      refine hK.out _ _ ?_
      clear hK K
      refine done_ (by kernel_rfl) ?_

      clear y3 y33 fr3
      have hr3s : Kd.R k45 45 w3 w.heap.size (fun _ => True) (.slice A3 ((spansF sides ats i).length + 1) c3) (spansF sides ats (i + 1)) := by
        rw [spansF_succ HN.out hlt, HFF.out, HTT.out]
        have := HR3.out
        rw [List.length_append, List.length_singleton] at this
        exact this
      have HI4 := Aside0.mk (HI2.out.lay HG3.out HB3.out hr3s HGL.out HGSL.out HBW.out)
      obtain ⟨w4, hw4⟩ : ∃ w4, w3.setCell ⟨w.heap.size, 3, none⟩ (.slice A3 ((spansF sides ats i).length + 1) c3) = w4 := ⟨_, rfl⟩
      rw [hw4] at HI4 ⊢
      clear hr3s hw4
      obtain ⟨sb, hsb⟩ : ∃ sb, someB base0 base sides ats i = sb := ⟨_, rfl⟩
      have HSB := Aside0.mk hsb
      rw [hsb]
      clear hsb
      cases sb with
      | true =>
        · skip
          have y1 : w4.cell? ⟨g, 1, none⟩ = some (.slice (some ⟨gs, 0, none⟩) sides.length sides.length) := cell_blk HI4.out.2.1 rfl
          go_wp2
          refine start_ (n := 10) (S := fun w' => w'.cell? ⟨g, 1, none⟩ = some (.slice (some ⟨gs, 0, none⟩) sides.length sides.length)) (ds := [9]) #[false, false, false, false, false, false, false, false, false, false] (by kernel_rfl) rfl rfl (y1) (fun hHeld => ?_)
          refine pure_ (i := 0) (N := some 54) (v := ?_) (a' := ?_) #[true, false, false, false, false, false, false, false, false, false] rfl rfl (by kernel_rfl) (fun _ _ _ h => h) (Or.inl ⟨by rfl, ?_⟩) ?_ ?_
          rotate_left
          · intro w'
            go_simp
            with_reducible rfl
          rotate_left
          · simp only [Act.put, List.setIfInBounds_toArray, List.set_cons_zero, List.set_cons_succ, i64_w, i32_w]
            rfl
          refine pure_ (i := 1) (N := some 55) (v := ?_) (a' := ?_) #[true, true, false, false, false, false, false, false, false, false] rfl rfl (by kernel_rfl) (fun _ _ _ h => h) (Or.inl ⟨by rfl, ?_⟩) ?_ ?_
          rotate_left
          · intro w'
            go_simp
            with_reducible rfl
          rotate_left
          · simp only [Act.put, List.setIfInBounds_toArray, List.set_cons_zero, List.set_cons_succ, i64_w, i32_w]
            rfl
          refine pure_ (i := 2) (N := some 56) (v := ?_) (a' := ?_) #[true, true, true, false, false, false, false, false, false, false] rfl rfl (by kernel_rfl) (fun _ _ _ h => h) (Or.inl ⟨by rfl, ?_⟩) ?_ ?_
          rotate_left
          · intro w'
            go_simp
            with_reducible rfl
          rotate_left
          · simp only [Act.put, List.setIfInBounds_toArray, List.set_cons_zero, List.set_cons_succ, i64_w, i32_w]
            rfl
          refine pure_ (i := 4) (N := some 58) (v := ?_) (a' := ?_) #[true, true, true, false, true, false, false, false, false, false] rfl rfl (by kernel_rfl) (fun _ _ _ h => h) (Or.inl ⟨by rfl, ?_⟩) ?_ ?_
          rotate_left
          · intro w'
            go_simp
            with_reducible rfl
          rotate_left
          · simp only [Act.put, List.setIfInBounds_toArray, List.set_cons_zero, List.set_cons_succ, i64_w, i32_w]
            rfl
          refine pure_ (i := 5) (N := some 59) (v := ?_) (a' := ?_) #[true, true, true, false, true, true, false, false, false, false] rfl rfl (by kernel_rfl) (fun _ _ _ h => h) (Or.inl ⟨by rfl, ?_⟩) ?_ ?_
          rotate_left
          · intro w'
            go_simp
            with_reducible rfl
          rotate_left
          · simp only [Act.put, List.setIfInBounds_toArray, List.set_cons_zero, List.set_cons_succ, i64_w, i32_w]
            rfl
          refine pure_ (i := 6) (N := some 60) (v := ?_) (a' := ?_) #[true, true, true, false, true, true, true, false, false, false] rfl rfl (by kernel_rfl) (fun _ _ _ h => h) (Or.inl ⟨by rfl, ?_⟩) ?_ ?_
          rotate_left
          · intro w'
            go_simp
            with_reducible rfl
          rotate_left
          · simp only [Act.put, List.setIfInBounds_toArray, List.set_cons_zero, List.set_cons_succ, i64_w, i32_w]
            rfl
          refine take_ (i := 3) (N := some 57) (v := ?_) (a' := ?_) #[true, true, true, true, true, true, true, false, false, false] rfl rfl (by kernel_rfl) (fun _ _ _ h => h) (Or.inl ⟨by rfl, ?_⟩) hHeld ?_ ?_
          rotate_left
          · intro w' s0
            go_simp
            with_reducible rfl
          rotate_left
          · simp only [Act.put, List.setIfInBounds_toArray, List.set_cons_zero, List.set_cons_succ, i64_w, i32_w]
            rfl
          refine one_ (i := 7) (N := some 61) #[true, true, true, true, true, true, true, true, false, false] rfl rfl (by kernel_rfl) (by decide) (fun K hK => ?_)
          refine goesC_ Tryz.func77 (by kernel_rfl) rfl #[.pointer (some ⟨g1, 0, none⟩)] #[.int .i64 (i : Int), .pointer (some ⟨g1, 0, none⟩)] (by rfl) rfl rfl (by rfl) (by simp only [List.map_toArray, List.map_cons, List.map_nil]; rfl) ?_
          with_reducible refine (HATI.out w4.drew (HI4.out.keeps.below (Below.refl _ _).drew)).mono ?_
          rintro e w7' ⟨rfl, n7, hn7⟩
          obtain ⟨w7, hw7⟩ : ∃ w7, w7 = w7' := ⟨_, rfl⟩
          rw [← hw7]
          rw [← hw7] at hn7
          clear hw7
          refine ⟨_, rfl, ?_⟩
          have HB7 : Aside0 (Below w4.heap.size w4 w7) := ⟨by rw [hn7]; exact pw_below_drewN (Below.refl _ _).drew n7⟩
          clear hn7
          have HI7 := Aside0.mk (HI4.out.below HB7.out (Nat.le_trans HBW.out HI4.out.keeps.1))
          have y17 : w7.cell? ⟨g, 1, none⟩ = some (.slice (some ⟨gs, 0, none⟩) sides.length sides.length) := cell_blk HI7.out.2.1 rfl
          have x7 : w7.cell? ⟨gs, i, none⟩ = some (.int .i64 f) := by rw [← HFF.out]; exact HI7.out.side hlt HN.out
          have fr7 : w7.frozen? ⟨gs, i, none⟩ = false := frozen_of_row _ _ _ _ _ HI7.out.2.2.1
          refine hK.out _ _ (y17) (fun hHeld => ?_)
          clear hK K
          refine norm_ (a' := ?_) ?_ ?_
          rotate_left
          · show Act.put _ (some 61) _ = _
            simp only [Act.put, List.setIfInBounds_toArray, List.set_cons_zero, List.set_cons_succ, i64_w, i32_w]
            rfl
          refine pure_ (i := 8) (N := some 62) (v := ?_) (a' := ?_) #[true, true, true, true, true, true, true, true, true, false] rfl rfl (by kernel_rfl) (fun _ _ _ h => h) (Or.inl ⟨by rfl, ?_⟩) ?_ ?_
          rotate_left
          · intro w'
            go_simp
            with_reducible rfl
          rotate_left
          · simp only [Act.put, List.setIfInBounds_toArray, List.set_cons_zero, List.set_cons_succ, i64_w, i32_w]
            rfl
          refine last_ (i := 9) (N := none) #[true, true, true, true, true, true, true, true, true, true] rfl rfl (by kernel_rfl) (by decide) (fun K hK => ?_)
          refine skip_ (w1 := ?_) (by rfl) rfl ?_ ?_
          rotate_left
          · go_simp
            rfl
          refine hK.out _ _ ?_
          clear hK K
          refine done_ (by kernel_rfl) ?_

          clear y1 y17 x7 fr7
          go_wp2
          go_roundw
          case measure => simp [intOf]; omega
          case rel => exact ⟨i + 1, _, by rw [someB_succ HN.out hlt, HSB.out, HFF.out, HTT.out]; rfl, by go_num, by omega, ⟨by rw [← HTT.out]; exact HI7.out.move hlt HN.out HGL.out HGSL.out h4 HNE.out⟩⟩
      | false =>
        · go_wp2_with fail
          refine (HATI.out w4 HI4.out.keeps).mono ?_
          rintro e w5' ⟨rfl, n5, hn5⟩
          obtain ⟨w5, hw5⟩ : ∃ w5, w5 = w5' := ⟨_, rfl⟩
          rw [← hw5]
          rw [← hw5] at hn5
          clear hw5
          have HB5 : Aside0 (Below w4.heap.size w4 w5) := ⟨by rw [hn5]; exact pw_below_drewN (Below.refl _ _) n5⟩
          have HI5 := Aside0.mk (HI4.out.below HB5.out (Nat.le_trans HBW.out HI4.out.keeps.1))
          clear hn5
          have y1 : w5.cell? ⟨g, 1, none⟩ = some (.slice (some ⟨gs, 0, none⟩) sides.length sides.length) := cell_blk HI5.out.2.1 rfl
          go_wp2
          refine start_ (n := 10) (S := fun w' => w'.cell? ⟨g, 1, none⟩ = some (.slice (some ⟨gs, 0, none⟩) sides.length sides.length)) (ds := [9]) #[false, false, false, false, false, false, false, false, false, false] (by kernel_rfl) rfl rfl (y1) (fun hHeld => ?_)
          refine pure_ (i := 0) (N := some 54) (v := ?_) (a' := ?_) #[true, false, false, false, false, false, false, false, false, false] rfl rfl (by kernel_rfl) (fun _ _ _ h => h) (Or.inl ⟨by rfl, ?_⟩) ?_ ?_
          rotate_left
          · intro w'
            go_simp
            with_reducible rfl
          rotate_left
          · simp only [Act.put, List.setIfInBounds_toArray, List.set_cons_zero, List.set_cons_succ, i64_w, i32_w]
            rfl
          refine pure_ (i := 1) (N := some 55) (v := ?_) (a' := ?_) #[true, true, false, false, false, false, false, false, false, false] rfl rfl (by kernel_rfl) (fun _ _ _ h => h) (Or.inl ⟨by rfl, ?_⟩) ?_ ?_
          rotate_left
          · intro w'
            go_simp
            with_reducible rfl
          rotate_left
          · simp only [Act.put, List.setIfInBounds_toArray, List.set_cons_zero, List.set_cons_succ, i64_w, i32_w]
            rfl
          refine pure_ (i := 2) (N := some 56) (v := ?_) (a' := ?_) #[true, true, true, false, false, false, false, false, false, false] rfl rfl (by kernel_rfl) (fun _ _ _ h => h) (Or.inl ⟨by rfl, ?_⟩) ?_ ?_
          rotate_left
          · intro w'
            go_simp
            with_reducible rfl
          rotate_left
          · simp only [Act.put, List.setIfInBounds_toArray, List.set_cons_zero, List.set_cons_succ, i64_w, i32_w]
            rfl
          refine pure_ (i := 4) (N := some 58) (v := ?_) (a' := ?_) #[true, true, true, false, true, false, false, false, false, false] rfl rfl (by kernel_rfl) (fun _ _ _ h => h) (Or.inl ⟨by rfl, ?_⟩) ?_ ?_
          rotate_left
          · intro w'
            go_simp
            with_reducible rfl
          rotate_left
          · simp only [Act.put, List.setIfInBounds_toArray, List.set_cons_zero, List.set_cons_succ, i64_w, i32_w]
            rfl
          refine pure_ (i := 5) (N := some 59) (v := ?_) (a' := ?_) #[true, true, true, false, true, true, false, false, false, false] rfl rfl (by kernel_rfl) (fun _ _ _ h => h) (Or.inl ⟨by rfl, ?_⟩) ?_ ?_
          rotate_left
          · intro w'
            go_simp
            with_reducible rfl
          rotate_left
          · simp only [Act.put, List.setIfInBounds_toArray, List.set_cons_zero, List.set_cons_succ, i64_w, i32_w]
            rfl
          refine pure_ (i := 6) (N := some 60) (v := ?_) (a' := ?_) #[true, true, true, false, true, true, true, false, false, false] rfl rfl (by kernel_rfl) (fun _ _ _ h => h) (Or.inl ⟨by rfl, ?_⟩) ?_ ?_
          rotate_left
          · intro w'
            go_simp
            with_reducible rfl
          rotate_left
          · simp only [Act.put, List.setIfInBounds_toArray, List.set_cons_zero, List.set_cons_succ, i64_w, i32_w]
            rfl
          refine take_ (i := 3) (N := some 57) (v := ?_) (a' := ?_) #[true, true, true, true, true, true, true, false, false, false] rfl rfl (by kernel_rfl) (fun _ _ _ h => h) (Or.inl ⟨by rfl, ?_⟩) hHeld ?_ ?_
          rotate_left
          · intro w' s0
            go_simp
            with_reducible rfl
          rotate_left
          · simp only [Act.put, List.setIfInBounds_toArray, List.set_cons_zero, List.set_cons_succ, i64_w, i32_w]
            rfl
          refine one_ (i := 7) (N := some 61) #[true, true, true, true, true, true, true, true, false, false] rfl rfl (by kernel_rfl) (by decide) (fun K hK => ?_)
          refine goesC_ Tryz.func77 (by kernel_rfl) rfl #[.pointer (some ⟨g1, 0, none⟩)] #[.int .i64 (i : Int), .pointer (some ⟨g1, 0, none⟩)] (by rfl) rfl rfl (by rfl) (by simp only [List.map_toArray, List.map_cons, List.map_nil]; rfl) ?_
          with_reducible refine (HATI.out w5.drew (HI5.out.keeps.below (Below.refl _ _).drew)).mono ?_
          rintro e w7' ⟨rfl, n7, hn7⟩
          obtain ⟨w7, hw7⟩ : ∃ w7, w7 = w7' := ⟨_, rfl⟩
          rw [← hw7]
          rw [← hw7] at hn7
          clear hw7
          refine ⟨_, rfl, ?_⟩
          have HB7 : Aside0 (Below w5.heap.size w5 w7) := ⟨by rw [hn7]; exact pw_below_drewN (Below.refl _ _).drew n7⟩
          clear hn7
          have HI7 := Aside0.mk (HI5.out.below HB7.out (Nat.le_trans HBW.out HI5.out.keeps.1))
          have y17 : w7.cell? ⟨g, 1, none⟩ = some (.slice (some ⟨gs, 0, none⟩) sides.length sides.length) := cell_blk HI7.out.2.1 rfl
          have x7 : w7.cell? ⟨gs, i, none⟩ = some (.int .i64 f) := by rw [← HFF.out]; exact HI7.out.side hlt HN.out
          have fr7 : w7.frozen? ⟨gs, i, none⟩ = false := frozen_of_row _ _ _ _ _ HI7.out.2.2.1
          refine hK.out _ _ (y17) (fun hHeld => ?_)
          clear hK K
          refine norm_ (a' := ?_) ?_ ?_
          rotate_left
          · show Act.put _ (some 61) _ = _
            simp only [Act.put, List.setIfInBounds_toArray, List.set_cons_zero, List.set_cons_succ, i64_w, i32_w]
            rfl
          refine pure_ (i := 8) (N := some 62) (v := ?_) (a' := ?_) #[true, true, true, true, true, true, true, true, true, false] rfl rfl (by kernel_rfl) (fun _ _ _ h => h) (Or.inl ⟨by rfl, ?_⟩) ?_ ?_
          rotate_left
          · intro w'
            go_simp
            with_reducible rfl
          rotate_left
          · simp only [Act.put, List.setIfInBounds_toArray, List.set_cons_zero, List.set_cons_succ, i64_w, i32_w]
            rfl
          refine last_ (i := 9) (N := none) #[true, true, true, true, true, true, true, true, true, true] rfl rfl (by kernel_rfl) (by decide) (fun K hK => ?_)
          refine skip_ (w1 := ?_) (by rfl) rfl ?_ ?_
          rotate_left
          · go_simp
            rfl
          refine hK.out _ _ ?_
          clear hK K
          refine done_ (by kernel_rfl) ?_

          clear y1 y17 x7 fr7
          go_wp2
          go_roundw
          case measure => simp [intOf]; omega
          case rel => exact ⟨i + 1, _, by rw [someB_succ HN.out hlt, HSB.out, HFF.out, HTT.out]; simp, by go_num, by omega, ⟨by rw [← HTT.out]; exact HI7.out.move hlt HN.out HGL.out HGSL.out h4 HNE.out⟩⟩
    · have hin : i = sides.length := by omega
      subst hin
      have d1 : decide ((sides.length : Int) < (sides.length : Int)) = false := decide_eq_false (by omega)
      have HS : Aside0 (Kd.S k48 48 wr B (fun k => k < w.heap.size) vo out) := ⟨out_keep H5.out H1.out H3.out HI.out.keeps⟩
      obtain ⟨Ao, co, hvo⟩ := Kd.S_slice HS.out
      subst hvo
      obtain ⟨Ak, ck, hvk⟩ := Kd.R_slice HI.out.spans
      have hsl := spansF_len (i := sides.length) HN.out (Nat.le_refl _)
      obtain ⟨sb, hsb⟩ : ∃ sb, someB base0 base sides ats sides.length = sb := ⟨_, rfl⟩
      have HSB := Aside0.mk hsb
      rw [hsb]
      clear hsb
      cases sb with
      | false =>
        · have HO : Aside0 (cutOut stable base0 base sides ats out = out) := ⟨by rw [cutOut, HSB.out, if_neg (by decide)]⟩
          have e0 : wr.cell? ⟨g, 0, none⟩ = some (.int .i64 base0) := cell_blk HI.out.2.1 rfl
          have f0 : wr.frozen? ⟨g, 0, none⟩ = false := frozen_of_row _ _ _ _ _ HI.out.2.1
          clear hsl hvk
          go_wp2
          go_end0
          exact ⟨rfl, ⟨by rw [HO.out]; exact cut_done HI.out.2.1 HI.out.2.2.1 (Kd.S_mono HS.out (fun _ _ => trivial)) HI.out.bel h2 h4 HNE.out HN.out⟩, ⟨(HI.out.keeps.set 0 _).toC⟩⟩
      | true =>
        · have HO : Aside0 (cutOut stable base0 base sides ats out = out ++ [⟨stable, ⟨base0, base⟩, spansF sides ats sides.length⟩]) := ⟨by rw [cutOut, HSB.out, if_pos rfl]⟩
          have HVK := Aside0.mk hvk
          have hchunk := HI.out.chunk
          rw [hvk, hsl] at hchunk
          have y2 : wr.cell? ⟨g, 2, none⟩ = some (.slice Ao out.length co) := cell_blk HI.out.2.1 rfl
          have z0 : wr.cell? ⟨w.heap.size, 0, none⟩ = some (.bool stable) := cell_blk hchunk rfl
          have z1 : wr.cell? ⟨w.heap.size, 1, none⟩ = some (.int .i64 base0) := cell_blk hchunk rfl
          have z2 : wr.cell? ⟨w.heap.size, 2, none⟩ = some (.int .i64 base) := cell_blk hchunk rfl
          have z3 : wr.cell? ⟨w.heap.size, 3, none⟩ = some (.slice Ak sides.length ck) := cell_blk hchunk rfl
          have HP : Aside0 (Kd.R k45 45 wr B (fun k => w.heap.size ≤ k) (.slice Ak sides.length ck) (spansF sides ats sides.length)) := ⟨by
            have := HI.out.spans
            rw [hvk, hsl] at this
            exact Kd.R_lower (Kd.R_mono (Kd.R_bound this) (fun k hk => hk.2.1)) HBW.out⟩
          have HPM : Aside0 ((k48).M wr.drew B (fun k => w.heap.size ≤ k) ⟨stable, ⟨base0, base⟩, spansF sides ats sides.length⟩ [.bool stable, .int .i64 base0, .int .i64 base, .slice Ak sides.length ck]) := ⟨k48_mkM _ _ _ ⟨stable, ⟨base0, base⟩, spansF sides ats sides.length⟩ (Kd.R_drew HP.out)⟩
          clear hsl hvk hchunk
          go_wp2
          refine start_ (n := 11) (S := fun w' => w'.cell? ⟨g, 2, none⟩ = some (.slice Ao out.length co) ∧ w'.cell? ⟨w.heap.size, 0, none⟩ = some (.bool stable) ∧ w'.cell? ⟨w.heap.size, 1, none⟩ = some (.int .i64 base0) ∧ w'.cell? ⟨w.heap.size, 2, none⟩ = some (.int .i64 base) ∧ w'.cell? ⟨w.heap.size, 3, none⟩ = some (.slice Ak sides.length ck)) (ds := [7, 10]) #[false, false, false, false, false, false, false, false, false, false, false] (by kernel_rfl) rfl rfl ⟨y2, z0, z1, z2, z3⟩ (fun hHeld => ?_)
          refine pure_ (i := 0) (N := some 65) (v := ?_) (a' := ?_) #[true, false, false, false, false, false, false, false, false, false, false] rfl rfl (by kernel_rfl) (fun _ _ _ h => h) (Or.inl ⟨by rfl, ?_⟩) ?_ ?_
          rotate_left
          · intro w'
            go_simp
            with_reducible rfl
          rotate_left
          · simp only [Act.put, List.setIfInBounds_toArray, List.set_cons_zero, List.set_cons_succ, i64_w, i32_w]
            rfl
          refine pure_ (i := 1) (N := some 66) (v := ?_) (a' := ?_) #[true, true, false, false, false, false, false, false, false, false, false] rfl rfl (by kernel_rfl) (fun _ _ _ h => h) (Or.inl ⟨by rfl, ?_⟩) ?_ ?_
          rotate_left
          · intro w'
            go_simp
            with_reducible rfl
          rotate_left
          · simp only [Act.put, List.setIfInBounds_toArray, List.set_cons_zero, List.set_cons_succ, i64_w, i32_w]
            rfl
          refine pure_ (i := 2) (N := some 67) (v := ?_) (a' := ?_) #[true, true, true, false, false, false, false, false, false, false, false] rfl rfl (by kernel_rfl) (fun _ _ _ h => h) (Or.inl ⟨by rfl, ?_⟩) ?_ ?_
          rotate_left
          · intro w'
            go_simp
            with_reducible rfl
          rotate_left
          · simp only [Act.put, List.setIfInBounds_toArray, List.set_cons_zero, List.set_cons_succ, i64_w, i32_w]
            rfl
          refine pure_ (i := 3) (N := some 68) (v := ?_) (a' := ?_) #[true, true, true, true, false, false, false, false, false, false, false] rfl rfl (by kernel_rfl) (fun _ _ _ h => h) (Or.inl ⟨by rfl, ?_⟩) ?_ ?_
          rotate_left
          · intro w'
            go_simp
            with_reducible rfl
          rotate_left
          · simp only [Act.put, List.setIfInBounds_toArray, List.set_cons_zero, List.set_cons_succ, i64_w, i32_w]
            rfl
          refine take_ (i := 4) (N := some 69) (v := ?_) (a' := ?_) #[true, true, true, true, true, false, false, false, false, false, false] rfl rfl (by kernel_rfl) (fun _ _ _ h => h) (Or.inl ⟨by rfl, ?_⟩) hHeld ?_ ?_
          rotate_left
          · rintro w' ⟨s0, s1, s2, s3, s4⟩
            go_simp
            with_reducible rfl
          rotate_left
          · simp only [Act.put, List.setIfInBounds_toArray, List.set_cons_zero, List.set_cons_succ, i64_w, i32_w]
            rfl
          refine take_ (i := 5) (N := some 70) (v := ?_) (a' := ?_) #[true, true, true, true, true, true, false, false, false, false, false] rfl rfl (by kernel_rfl) (fun _ _ _ h => h) (Or.inl ⟨by rfl, ?_⟩) hHeld ?_ ?_
          rotate_left
          · rintro w' ⟨s0, s1, s2, s3, s4⟩
            go_simp
            with_reducible rfl
          rotate_left
          · simp only [Act.put, List.setIfInBounds_toArray, List.set_cons_zero, List.set_cons_succ, i64_w, i32_w]
            rfl
          refine one_ (i := 6) (N := some 71) #[true, true, true, true, true, true, true, false, false, false, false] rfl rfl (by kernel_rfl) (by decide) (fun K hK => ?_)
          refine value_ (w1 := ?_) (v := ?_) (by rfl) rfl ?_ ?_
          rotate_left 2
          · go_simp
            constructor
            · rfl
            · rfl
          refine hK.out _ _ ⟨cell_alloc_of y2 _, cell_alloc_of z0 _, cell_alloc_of z1 _, cell_alloc_of z2 _, cell_alloc_of z3 _⟩ (fun hHeld => ?_)
          clear hK K
          refine norm_ (a' := ?_) ?_ ?_
          rotate_left
          · show Act.put _ (some 71) _ = _
            simp only [Act.put, List.setIfInBounds_toArray, List.set_cons_zero, List.set_cons_succ, i64_w, i32_w]
            rfl
          refine last_ (i := 7) (N := some 72) #[true, true, true, true, true, true, true, true, false, false, false] rfl rfl (by kernel_rfl) (by decide) (fun K hK => ?_)
          refine Kd.S_append_step k48 (w0 := wr.drew) (W := wr.drew) B (by rfl) (.tmp 69) (.tmp 71) 26 48 (.agg #[.bool false, .int .i64 0, .int .i64 0, .slice none 0 0]) 48 rfl Tryz.underlying26 info48 rfl (by decide) (by decide) (.slice Ao out.length co) out ⟨stable, ⟨base0, base⟩, spansF sides ats sides.length⟩ [.bool stable, .int .i64 base0, .int .i64 base, .slice Ak sides.length ck] (fun _ => True) (fun k => w.heap.size ≤ k) rfl rfl HPM.out (fun k hk => ⟨trivial, Kd.S_away HS.out (fun j hj => by omega)⟩) (fun _ _ => trivial) ?aO (Below.refl _ _) ?aS (by omega) ?_
          (case aO => exact Kd.S_mono (Kd.S_drew HS.out) (fun k hk => ⟨trivial, by omega⟩))
          (case aS => exact Nat.le_trans HBW.out HI.out.keeps.1)
          intro v9 w9 hs9 hb9 hg9 hat9
          obtain ⟨A9, c9, hv9⟩ := Kd.S_slice hs9
          subst hv9
          have hgn : some g ≠ (Value.slice Ao out.length co).ownBlock := Kd.S_ne HS.out HI.out.2.1 (by decide)
          have g9 : w9.heap[g]? = some (.cells #[.int .i64 base0, .slice (some ⟨gs, 0, none⟩) sides.length sides.length, .slice Ao out.length co] 126 (0, 0)) := (hg9.block g (blk_lt HI.out.2.1) hgn).trans HI.out.2.1
          have y29 : w9.cell? ⟨g, 2, none⟩ = some (.slice Ao out.length co) := cell_blk g9 rfl
          have fr9 : w9.frozen? ⟨g, 2, none⟩ = false := frozen_of_row _ _ _ _ _ g9
          have HS9 := Aside0.mk hs9
          have HB9 := Aside0.mk hb9
          have HG9 := Aside0.mk hg9
          have G9 := Aside0.mk g9
          clear hs9 hb9 hg9 g9 hat9 hgn
          refine hK.out _ _ ?_
          clear hK K
          refine norm_ (a' := ?_) ?_ ?_
          rotate_left
          · show Act.put _ (some 72) _ = _
            simp only [Act.put, List.setIfInBounds_toArray, List.set_cons_zero, List.set_cons_succ, i64_w, i32_w]
            rfl
          refine pure_ (i := 8) (N := some 73) (v := ?_) (a' := ?_) #[true, true, true, true, true, true, true, true, true, false, false] rfl rfl (by kernel_rfl) (fun _ _ _ h => h) (Or.inl ⟨by rfl, ?_⟩) ?_ ?_
          rotate_left
          · intro w'
            go_simp
            with_reducible rfl
          rotate_left
          · simp only [Act.put, List.setIfInBounds_toArray, List.set_cons_zero, List.set_cons_succ, i64_w, i32_w]
            rfl
          refine pure_ (i := 9) (N := some 74) (v := ?_) (a' := ?_) #[true, true, true, true, true, true, true, true, true, true, false] rfl rfl (by kernel_rfl) (fun _ _ _ h => h) (Or.inl ⟨by rfl, ?_⟩) ?_ ?_
          rotate_left
          · intro w'
            go_simp
            with_reducible rfl
          rotate_left
          · simp only [Act.put, List.setIfInBounds_toArray, List.set_cons_zero, List.set_cons_succ, i64_w, i32_w]
            rfl
          refine last_ (i := 10) (N := none) #[true, true, true, true, true, true, true, true, true, true, true] rfl rfl (by kernel_rfl) (by decide) (fun K hK => ?_)
          refine skip_ (w1 := ?_) (by rfl) rfl ?_ ?_
          rotate_left
          · go_simp
            rfl
          refine hK.out _ _ ?_
          clear hK K
          refine done_ (by kernel_rfl) ?_

          have hs9' : Kd.S k48 48 w9 B (fun _ => True) (.slice A9 (out.length + 1) c9) (out ++ [⟨stable, ⟨base0, base⟩, spansF sides ats sides.length⟩]) := by
            have := HS9.out
            rw [List.length_append, List.length_singleton] at this
            exact this
          obtain ⟨w10, hw10⟩ : ∃ w10, w9.setCell ⟨g, 2, none⟩ (.slice A9 (out.length + 1) c9) = w10 := ⟨_, rfl⟩
          rw [hw10]
          have G10 : Aside0 (w10.heap[g]? = some (.cells #[.int .i64 base0, .slice (some ⟨gs, 0, none⟩) sides.length sides.length, .slice A9 (out.length + 1) c9] 126 (0, 0))) := ⟨by rw [← hw10, heap_set_same G9.out]; rfl⟩
          have g3 : w10.heap[gs]? = some (.cells ((ats.take sides.length ++ sides.drop sides.length).map (Value.int .i64)).toArray 3 (0, 0)) := by
            rw [← hw10]
            exact set_keepA ((HG9.out.block gs (blk_lt HI.out.2.2.1) (Kd.S_ne HS.out HI.out.2.2.1 (by decide))).trans HI.out.2.2.1) (fun e => HNE.out e.symm) _
          have G3 := Aside0.mk g3
          have S10 : Aside0 (Kd.S k48 48 w10 B (fun _ => True) (.slice A9 (out.length + 1) c9) (out ++ [⟨stable, ⟨base0, base⟩, spansF sides ats sides.length⟩])) := ⟨by rw [← hw10]; exact Kd.S_set hs9' G9.out (by decide) 2 _⟩
          have B10 : Aside0 (Below B w0 w10) := ⟨by rw [← hw10]; exact (HI.out.bel.drew.trans HB9.out).setCell (p := ⟨g, 2, none⟩) h2 _⟩
          have K10 : Aside0 (CKeeps g gs w w10) := ⟨by
            rw [← hw10]
            refine ⟨by have := HG9.out.size; have := HI.out.keeps.1; simp [World.setCell] at *; omega, fun k cs q fr a b hk hq => ?_⟩
            have hkl := (Array.getElem?_eq_some_iff.1 hk).1
            have hkr : wr.heap[k]? = some (.cells cs q fr) := (HI.out.keeps.2 k hkl a b).trans hk
            rw [heap_set_other a]
            refine (HG9.out.block k (blk_lt hkr) (fun e => ?_)).trans hkr
            obtain ⟨cells, hc⟩ := Kd.S_typed HS.out k e.symm
            rw [hkr] at hc
            injection hc with hc
            injection hc with _ e2 _
            exact hq e2⟩
          have e0 : w10.cell? ⟨g, 0, none⟩ = some (.int .i64 base0) := cell_blk G10.out rfl
          have f0 : w10.frozen? ⟨g, 0, none⟩ = false := frozen_of_row _ _ _ _ _ G10.out
          clear g3 hs9' hw10 y2 z0 z1 z2 z3 y29 fr9
          go_wp2
          go_end0
          refine ⟨rfl, ⟨by rw [HO.out]; exact cut_done G10.out G3.out S10.out B10.out h2 h4 HNE.out HN.out⟩, ⟨⟨by have := K10.out.1; simpa [World.setCell] using this, fun k cs q fr a b hk hq => (heap_set_other a _).trans (K10.out.2 k cs q fr a b hk hq)⟩⟩⟩
end Go.Proofs.YtbbhdbeaikclcaaGreat.X
-- part XParts
namespace Go.Proofs.YtbbhdbeaikclcaaGreat.X
open Go.RowKit Go.Proofs.YtbbhdbeaikclcaaGreatW.PrintWords Go.Proofs.YtbbhdbeaikclcaaGreatW.PrintLast Go.Proofs.YtbbhdbeaikclcaaGreatW.PrintMore
set_option linter.unusedVariables false
set_option linter.unusedSimpArgs false
/-- A span is one of a list's places. -/
def SpanOk (s : Spanx) (n : Nat) : Prop := 0 ≤ s.f0 ∧ s.f0 ≤ s.f1 ∧ s.f1 ≤ (n : Int)
def cutS {α : Type} (l : List α) (s : Spanx) : List α := cutL l s.f0.toNat s.f1.toNat
def partsF (spans : List Spanx) (sides : List (List ByteArray)) : List (List ByteArray) := List.zipWith (fun s l => cutS l s) spans sides
theorem partsF_len {spans : List Spanx} {sides : List (List ByteArray)} (h : spans.length = sides.length) : (partsF spans sides).length = sides.length := by
  rw [partsF, List.length_zipWith, h, Nat.min_self]
theorem partsF_succ {spans : List Spanx} {sides : List (List ByteArray)} {i : Nat} (h1 : i < spans.length) (h2 : i < sides.length) : partsF (spans.take (i + 1)) (sides.take (i + 1)) = partsF (spans.take i) (sides.take i) ++ [cutS sides[i] spans[i]] := by
  rw [partsF, partsF, ← List.take_append_getElem h1, ← List.take_append_getElem h2, List.zipWith_append (by rw [List.length_take, List.length_take]; omega)]; rfl
set_option maxHeartbeats 2000000 in
/-- What is cut, where the span is one. -/
theorem parts_cut (gk : Nat) (A : Option Addr) (c : Nat) (l : List ByteArray) (f t : Nat) (w : World) (hc : l.length ≤ c) (h1 : f ≤ t) (h2 : t ≤ l.length) (hm : l.length ≤ 1000000000000) :
    Calls Tryz.prog 101 #[.slice A l.length c, .agg #[.int .i64 (f : Int), .int .i64 (t : Int)], .pointer (some ⟨gk, 0, none⟩)] w fun e w' => e = .returned (.slice (cutA A f t) (t - f) (t - f)) ∧ Aside0 (Below w.heap.size w w') := by
  have HB : Aside0 (∀ o, Below w.heap.size w (w.alloc o)) := ⟨fun o => newBelow w o⟩
  have hcut : ∀ W : World, (Instr.slice 22 (.slice A l.length c) (some (.int .i64 (f : Int))) (some (.int .i64 (t : Int))) (some (.int .i64 (t : Int)))).run Tryz.prog W = .ok (.slice (cutA A f t) (t - f) (t - f)) W := by
    obtain ⟨i0, hi0, hz0⟩ := Option.map_eq_some_iff.1 info9
    simp only [Prod.mk.injEq] at hz0
    obtain ⟨hz, hsz, hby⟩ := hz0
    exact run_cut3 22 9 Tryz.underlying22 hi0 hsz A l.length c f t h1 h2 hc
  have d1 : decide ((f : Int) < 0) = false := decide_eq_false (by omega)
  have d2 : decide ((t : Int) < (f : Int)) = false := decide_eq_false (by omega)
  have d3 : decide ((l.length : Int) < (t : Int)) = false := decide_eq_false (by omega)
  have d4 : decide (t < f) = false := decide_eq_false (by omega)
  have d5 : decide (l.length < t) = false := decide_eq_false (by omega)
  go_enter Tryz.func101, Tryz.ntmps101
  go_wp2
  go_ret
  exact ⟨rfl, ⟨HB.out _⟩⟩
theorem FK_cut {W : World} {ok : Nat → Prop} {A : Option Addr} {n : Nat} {l : List ByteArray} (h : Kd.F Kd.string W ok A n l) (hn : l.length = n) : Kd.FK KSs W ok l [.slice A n n] := by
  subst hn
  exact Kd.FK_slice_mk (Nat.le_refl _) h
set_option maxRecDepth 100000 in
set_option maxHeartbeats 4000000 in
theorem content_Parts (P : Nat → Prop) (st : Bool) (bs : Spanx) (As : Option Addr) (cs : Nat) (ss : List Spanx) (A0 : Option Addr) (c0 : Nat) (l0 : List ByteArray) (A1 : Option Addr) (c1 : Nat) (l1 : List (List ByteArray)) (w : World)
    (hs : Kd.C k45 w As ss.length ss) (hcs : ss.length ≤ cs) (h0 : Kd.F Kd.string w P A0 l0.length l0) (hc0 : l0.length ≤ c0) (h1 : Kd.F KSs w P A1 l1.length l1) (hc1 : l1.length ≤ c1)
    (hlen : ss.length = l1.length) (hb : SpanOk bs l0.length) (hok : ∀ i (h : i < l1.length), SpanOk (ss.getD i z45) l1[i].length) (hn : l1.length ≤ 1000000) (hm0 : l0.length ≤ 1000000000000) (hm : ∀ y ∈ l1, y.length ≤ 1000000000000) :
    Calls Tryz.prog 88 #[.agg #[.bool st, .int .i64 bs.f0, .int .i64 bs.f1, .slice As ss.length cs], .slice A0 l0.length c0, .slice A1 l1.length c1] w fun e w' => ∃ At v, e = .returned (.tuple #[.slice At (cutS l0 bs).length (cutS l0 bs).length, v, .int .i64 0]) ∧
      Aside0 (Kd.F Kd.string w' (fun k => P k ∧ k < w.heap.size) At (cutS l0 bs).length (cutS l0 bs)) ∧ Aside0 (Kd.N KSs 22 w' w.heap.size (fun k => P k ∨ w.heap.size ≤ k) v (partsF ss l1)) ∧ Aside0 (Below w.heap.size w w') := by
  obtain ⟨bf, bt⟩ := bs
  obtain ⟨hb1, hb2, hb3⟩ := hb
  dsimp only at hb1 hb2 hb3
  obtain ⟨f0, rfl⟩ : ∃ f : Nat, bf = (f : Int) := ⟨bf.toNat, by omega⟩
  obtain ⟨t0, rfl⟩ : ∃ f : Nat, bt = (f : Int) := ⟨bt.toNat, by omega⟩
  have hcl : (cutS l0 ⟨(f0 : Int), (t0 : Int)⟩) = cutL l0 f0 t0 := rfl
  rw [hcl]
  have hcl2 : (cutL l0 f0 t0).length = t0 - f0 := cutL_len (by omega)
  have HF0 : Aside0 (Kd.F Kd.string w P (cutA A0 f0 t0) (t0 - f0) (cutL l0 f0 t0)) := ⟨by rw [← hcl2]; exact F_cutA rfl h0 (by omega) (by omega)⟩
  rw [hcl2]
  have HS := Aside0.mk hs
  have HF1 := Aside0.mk h1
  have HOK := Aside0.mk hok
  have HM := Aside0.mk hm
  have HLEN := Aside0.mk hlen
  have d1 : decide ((ss.length : Int) = (l1.length : Int)) = true := decide_eq_true (by omega)
  have d2 : ((ss.length : Int) == (l1.length : Int)) = true := by rw [beq_iff_eq]; omega
  have hmf : ∀ (fn : Fn) (first cap : Array Value) (w : World), (Instr.makeFunc fn first cap).run Tryz.prog w = .ok (.func fn first cap) w := fun _ _ _ _ => rfl
  have HT0 : Aside0 (f0 ≤ t0 ∧ t0 ≤ l0.length) := ⟨by omega, by omega⟩
  clear hs h0 h1 hok hm hcl hcl2 hb1 hb2 hb3 hlen
  go_enter Tryz.func88, Tryz.ntmps88
  go_wp2_with fail
  obtain ⟨w1, hw1⟩ : ∃ w1, (w.alloc (.cells #[.bool st, .int .i64 (f0 : Int), .int .i64 (t0 : Int), .slice As ss.length cs] 48)).alloc (.cells #[.bool true] 4) = w1 := ⟨_, rfl⟩
  have G0 : Aside0 (w1.heap[w.heap.size]? = some (.cells #[.bool st, .int .i64 (f0 : Int), .int .i64 (t0 : Int), .slice As ss.length cs] 48 (0, 0))) := ⟨by rw [← hw1]; exact newKeep (blk_new _ _) _⟩
  have G1 : Aside0 (w1.heap[w.heap.size + 1]? = some (.cells #[.bool true] 4 (0, 0))) := ⟨by
    rw [← hw1]
    have := blk_new (w.alloc (.cells #[.bool st, .int .i64 (f0 : Int), .int .i64 (t0 : Int), .slice As ss.length cs] 48)) (.cells #[.bool true] 4)
    simpa using this⟩
  have HB1 : Aside0 (Below w.heap.size w w1) := ⟨by rw [← hw1]; exact (newBelow _ _).alloc (by simp) _⟩
  rw [hw1]
  clear hw1
  refine (parts_cut (w.heap.size + 1) A0 c0 l0 f0 t0 w1 hc0 HT0.out.1 HT0.out.2 hm0).mono ?_
  rintro e w2 ⟨rfl, hb2⟩
  have HB2 : Aside0 (Below w.heap.size w w2) := ⟨far_ HB1.out hb2.out⟩
  have G02 := Aside0.mk (farKeep G0.out hb2.out)
  have G12 := Aside0.mk (farKeep G1.out hb2.out)
  have z3 : w2.cell? ⟨w.heap.size, 3, none⟩ = some (.slice As ss.length cs) := cell_blk G02.out rfl
  clear hb2 G0 G1 HB1
  go_wp2_with fail
  go_loopw [12, 13, 30] (fun v _ iv wr => ∃ (k : Nat) (Ao : Option Addr) (co : Nat), v = .slice Ao (partsF (ss.take k) (l1.take k)).length co ∧ iv = .int .i64 k ∧ k ≤ ss.length ∧ Aside0 (Kd.N KSs 22 wr w.heap.size (fun k => P k ∨ w.heap.size ≤ k) (.slice Ao (partsF (ss.take k) (l1.take k)).length co) (partsF (ss.take k) (l1.take k))) ∧ Aside0 (wr.heap[w.heap.size + 1]? = some (.cells #[.bool true] 4 (0, 0))) ∧ Aside0 (Below w.heap.size w wr)) (fun _ _ iv _ => ss.length - (intOf iv).toNat)
  case atStart => exact ⟨0, _, _, rfl, rfl, Nat.zero_le _, ⟨Kd.N_nil _ _ _ _ _⟩, G12, HB2⟩
  case round =>
    obtain ⟨k, Ao, co, rfl, rfl, hk, HO, HG, HBr⟩ := hrel
    by_cases hlt : k < ss.length
    · have e1 : decide ((k : Int) < (ss.length : Int)) = true := decide_eq_true (by omega)
      have e2 : decide (k < ss.length) = true := decide_eq_true hlt
      have hlt1 : k < l1.length := by have := HLEN.out; omega
      have e3 : (k : Int) < (l1.length : Int) := by omega
      have e4 : (0 : Int) ≤ (k : Int) := by omega
      obtain ⟨as_, rfl, xf, xt⟩ := at_T45 HS.out (k : Int) (by omega) (by omega)
      have hx : rd_T45 ss (k : Int) = ss[k] := getN hlt
      have hokk := HOK.out k hlt1
      rw [getD_get hlt] at hokk
      have hsucc := partsF_succ hlt hlt1
      obtain ⟨⟨sf, st_⟩, hse⟩ : ∃ s, ss[k] = s := ⟨_, rfl⟩
      rw [hse] at hokk hsucc
      rw [hx, hse] at xf xt
      obtain ⟨ho1, ho2, ho3⟩ := hokk
      dsimp only at ho1 ho2 ho3 xf xt
      obtain ⟨f, rfl⟩ : ∃ f : Nat, sf = (f : Int) := ⟨sf.toNat, by omega⟩
      obtain ⟨t, rfl⟩ : ∃ f : Nat, st_ = (f : Int) := ⟨st_.toNat, by omega⟩
      replace xf := (HBr.out.cell (World.block_lt_of_cell? w _ xf)).trans xf
      replace xt := (HBr.out.cell (World.block_lt_of_cell? w _ xt)).trans xt
      have kk : (k : Int).toNat = k := by omega
      rw [kk] at xf xt
      obtain ⟨a1, cs1, rfl, hcl, hFK, hcell, _⟩ := Kd.F_get (Kd.F_old HF1.out HBr.out) [] (k : Int) (by omega) (by omega)
      have hy : l1.getD (k : Int).toNat [] = l1[k] := by simp [hlt1]
      have hmy := HM.out _ (List.getElem_mem hlt1)
      obtain ⟨y, hye⟩ : ∃ y, l1[k] = y := ⟨_, rfl⟩
      rw [hy, hye] at hFK
      rw [hye] at hmy hsucc ho3
      obtain ⟨Ay, cy, rfl, ly, hFy⟩ := Kd.FK_slice_open hFK
      have xy := hcell 0 _ rfl
      rw [kk] at xy
      replace xy : wr.cell? (a1.add k) = some (.slice Ay y.length cy) := by
        have e : k * KSs.sz + 0 = k := by show k * 1 + 0 = k; omega
        rw [e] at xy; exact xy
      have hft : f ≤ t := by omega
      have hty : t ≤ y.length := by omega
      have HFC : Aside0 (Kd.F Kd.string wr (fun k => P k ∧ k < w.heap.size) (cutA Ay f t) (t - f) (cutL y f t)) := ⟨by
        have := F_cutA (d := Kd.string) rfl hFy hft hty
        rwa [cutL_len hty] at this⟩
      have HCL : Aside0 ((cutL y f t).length = t - f) := ⟨cutL_len hty⟩
      obtain ⟨out, hout⟩ : ∃ out, partsF (ss.take k) (l1.take k) = out := ⟨_, rfl⟩
      have houl : out.length ≤ 1000000 := by rw [← hout, partsF_len (by rw [List.length_take, List.length_take]; omega), List.length_take]; omega
      rw [hout] at HO hsucc ⊢
      have HTK : Aside0 (partsF (ss.take (k + 1)) (l1.take (k + 1)) = out ++ [cutL y f t]) := ⟨hsucc⟩
      have HOUL := Aside0.mk houl
      have HBw : Aside0 (w.heap.size ≤ wr.heap.size) := ⟨HBr.out.size⟩
      have xy' : ∀ o, (wr.alloc o).cell? (a1.add k) = some (.slice Ay y.length cy) := fun o => cell_alloc_of xy o
      clear kk hy hye hcl hFK hcell hFy hout houl hx hse hsucc ho1 ho2 ho3 xy
      go_wp2
      obtain ⟨w3, hw3⟩ : ∃ w3, wr.alloc (.cells #[.int .i64 (f : Int), .int .i64 (t : Int)] 45) = w3 := ⟨_, rfl⟩
      have g3 : w3.heap[wr.heap.size]? = some (.cells #[.int .i64 (f : Int), .int .i64 (t : Int)] 45 (0, 0)) := by rw [← hw3]; exact blk_new _ _
      have yf : w3.cell? ⟨wr.heap.size, 0, none⟩ = some (.int .i64 (f : Int)) := cell_blk g3 rfl
      have yt : w3.cell? ⟨wr.heap.size, 1, none⟩ = some (.int .i64 (t : Int)) := cell_blk g3 rfl
      have yy : w3.cell? (a1.add k) = some (.slice Ay y.length cy) := by rw [← hw3]; exact xy' _
      have HB3 : Aside0 (Below wr.heap.size wr w3) := ⟨by rw [← hw3]; exact newBelow _ _⟩
      rw [hw3]
      clear hw3 g3 xy' xf xt
      refine start_ (n := 11) (S := fun w' => w'.cell? (a1.add k) = some (.slice Ay y.length cy) ∧ w'.cell? ⟨wr.heap.size, 0, none⟩ = some (.int .i64 (f : Int)) ∧ w'.cell? ⟨wr.heap.size, 1, none⟩ = some (.int .i64 (t : Int))) (ds := [7, 8, 9]) #[false, false, false, false, false, false, false, false, false, false, false] (by kernel_rfl) rfl rfl ⟨yy, yf, yt⟩ (fun hHeld => ?_)
      refine pure_ (i := 0) (N := some 35) (v := ?_) (a' := ?_) #[true, false, false, false, false, false, false, false, false, false, false] rfl rfl (by kernel_rfl) (fun _ _ _ h => h) (Or.inl ⟨by rfl, ?_⟩) ?_ ?_
      rotate_left
      · intro w'
        go_simp
        with_reducible rfl
      rotate_left
      · simp only [Act.put, List.setIfInBounds_toArray, List.set_cons_zero, List.set_cons_succ, i64_w, i32_w]
        rfl
      refine pure_ (i := 1) (N := some 36) (v := ?_) (a' := ?_) #[true, true, false, false, false, false, false, false, false, false, false] rfl rfl (by kernel_rfl) (fun _ _ _ h => h) (Or.inl ⟨by rfl, ?_⟩) ?_ ?_
      rotate_left
      · intro w'
        go_simp
        with_reducible rfl
      rotate_left
      · simp only [Act.put, List.setIfInBounds_toArray, List.set_cons_zero, List.set_cons_succ, i64_w, i32_w]
        rfl
      refine pure_ (i := 2) (N := some 37) (v := ?_) (a' := ?_) #[true, true, true, false, false, false, false, false, false, false, false] rfl rfl (by kernel_rfl) (fun _ _ _ h => h) (Or.inl ⟨by rfl, ?_⟩) ?_ ?_
      rotate_left
      · intro w'
        go_simp
        with_reducible rfl
      rotate_left
      · simp only [Act.put, List.setIfInBounds_toArray, List.set_cons_zero, List.set_cons_succ, i64_w, i32_w]
        rfl
      refine pure_ (i := 3) (N := some 38) (v := ?_) (a' := ?_) #[true, true, true, true, false, false, false, false, false, false, false] rfl rfl (by kernel_rfl) (fun _ _ _ h => h) (Or.inl ⟨by rfl, ?_⟩) ?_ ?_
      rotate_left
      · intro w'
        go_simp
        with_reducible rfl
      rotate_left
      · simp only [Act.put, List.setIfInBounds_toArray, List.set_cons_zero, List.set_cons_succ, i64_w, i32_w]
        rfl
      refine pure_ (i := 4) (N := some 39) (v := ?_) (a' := ?_) #[true, true, true, true, true, false, false, false, false, false, false] rfl rfl (by kernel_rfl) (fun _ _ _ h => h) (Or.inl ⟨by rfl, ?_⟩) ?_ ?_
      rotate_left
      · intro w'
        go_simp
        with_reducible rfl
      rotate_left
      · simp only [Act.put, List.setIfInBounds_toArray, List.set_cons_zero, List.set_cons_succ, i64_w, i32_w]
        rfl
      refine take_ (i := 5) (N := some 40) (v := ?_) (a' := ?_) #[true, true, true, true, true, true, false, false, false, false, false] rfl rfl (by kernel_rfl) (fun _ _ _ h => h) (Or.inl ⟨by rfl, ?_⟩) hHeld ?_ ?_
      rotate_left
      · rintro w' ⟨s0, s1, s2⟩
        go_simp
        with_reducible rfl
      rotate_left
      · simp only [Act.put, List.setIfInBounds_toArray, List.set_cons_zero, List.set_cons_succ, i64_w, i32_w]
        rfl
      refine take_ (i := 6) (N := some 41) (v := ?_) (a' := ?_) #[true, true, true, true, true, true, true, false, false, false, false] rfl rfl (by kernel_rfl) (fun _ _ _ h => h) (Or.inl ⟨by rfl, ?_⟩) hHeld ?_ ?_
      rotate_left
      · rintro w' ⟨s0, s1, s2⟩
        go_simp
        with_reducible rfl
      rotate_left
      · simp only [Act.put, List.setIfInBounds_toArray, List.set_cons_zero, List.set_cons_succ, i64_w, i32_w]
        rfl
      refine last_ (i := 7) (N := some 42) #[true, true, true, true, true, true, true, true, false, false, false] rfl rfl (by kernel_rfl) (by decide) (fun K hK => ?_)
      refine goesC_ Tryz.func101 (by kernel_rfl) rfl #[.pointer (some ⟨w.heap.size + 1, 0, none⟩)] #[.slice Ay y.length cy, .agg #[.int .i64 (f : Int), .int .i64 (t : Int)], .pointer (some ⟨w.heap.size + 1, 0, none⟩)] (by rfl) rfl rfl (by rfl) (by simp only [List.map_toArray, List.map_cons, List.map_nil]; rfl) ?_
      with_reducible refine (parts_cut (w.heap.size + 1) Ay cy y f t w3.drew ly hft hty hmy).mono ?_
      rintro e w4 ⟨rfl, hb4⟩
      refine ⟨_, rfl, ?_⟩
      have HB4 : Aside0 (Below wr.heap.size wr w4) := ⟨far_ HB3.out ((Below.refl _ _).drew.trans hb4.out)⟩
      clear hb4
      refine hK.out _ _ ?_
      clear hK K
      refine norm_ (a' := ?_) ?_ ?_
      rotate_left
      · show Act.put _ (some 42) _ = _
        simp only [Act.put, List.setIfInBounds_toArray, List.set_cons_zero, List.set_cons_succ, i64_w, i32_w]
        rfl
      refine last_ (i := 8) (N := some 43) #[true, true, true, true, true, true, true, true, true, false, false] rfl rfl (by kernel_rfl) (by decide) (fun K hK => ?_)
      refine value_ (w1 := ?_) (v := ?_) (by rfl) rfl ?_ ?_
      rotate_left 2
      · go_simp
        constructor
        · rfl
        · rfl
      refine hK.out _ _ ?_
      clear hK K
      refine norm_ (a' := ?_) ?_ ?_
      rotate_left
      · show Act.put _ (some 43) _ = _
        simp only [Act.put, List.setIfInBounds_toArray, List.set_cons_zero, List.set_cons_succ, i64_w, i32_w]
        rfl
      refine last_ (i := 9) (N := some 44) #[true, true, true, true, true, true, true, true, true, true, false] rfl rfl (by kernel_rfl) (by decide) (fun K hK => ?_)
      refine Kd.N_append_step KSs (w0 := w) (W := w4) w.heap.size (by rfl) (.tmp 35) (.tmp 43) 23 22 (.slice none 0 0) 24 rfl Tryz.underlying23 info22 rfl Nat.zero_lt_one (by decide) (.slice Ao out.length co) out (cutL y f t) [.slice (cutA Ay f t) (t - f) (t - f)] (fun k => P k ∨ w.heap.size ≤ k) (fun k => P k ∧ k < w.heap.size) rfl rfl (FK_cut (Kd.F_below HFC.out HB4.out) HCL.out) (fun k hk => ⟨.inl hk.1, fun e => by have := Kd.N_base HO.out k e.symm; have := hk.2; omega⟩) (fun k hk => .inr (Nat.le_trans (Nat.le_trans HBw.out HB4.out.size) hk)) (Kd.N_below HO.out HB4.out) (far_ HBr.out HB4.out) (Nat.le_trans HBw.out HB4.out.size) (by have := HOUL.out; omega) ?_
      intro v5 w5 ho5 hb5 hg5 hat5
      obtain ⟨A5, c5, hv5⟩ := Kd.N_slice ho5
      subst hv5
      have HO5 := Aside0.mk ho5
      have HB5 := Aside0.mk hb5
      have HG5 := Aside0.mk hg5
      clear ho5 hb5 hg5 hat5
      refine hK.out _ _ ?_
      clear hK K
      refine norm_ (a' := ?_) ?_ ?_
      rotate_left
      · show Act.put _ (some 44) _ = _
        simp only [Act.put, List.setIfInBounds_toArray, List.set_cons_zero, List.set_cons_succ, i64_w, i32_w]
        rfl
      refine pure_ (i := 10) (N := some 12) (v := ?_) (a' := ?_) #[true, true, true, true, true, true, true, true, true, true, true] rfl rfl (by kernel_rfl) (fun _ _ _ h => h) (Or.inl ⟨by rfl, ?_⟩) ?_ ?_
      rotate_left
      · intro w'
        go_simp
        with_reducible rfl
      rotate_left
      · simp only [Act.put, List.setIfInBounds_toArray, List.set_cons_zero, List.set_cons_succ, i64_w, i32_w]
        rfl
      refine done_ (by kernel_rfl) ?_

      clear yf yt yy
      go_wp2
      go_roundw
      case measure => simp [intOf]; omega
      case rel =>
        have h14 := farKeep HG.out HB4.out
        refine ⟨k + 1, A5, c5, by rw [HTK.out, List.length_append, List.length_singleton], by go_num, by omega, ⟨by rw [HTK.out]; exact HO5.out⟩, ⟨(HG5.out.block _ (blk_lt h14) (Kd.N_ne (Kd.N_below HO.out HB4.out) h14 (by decide))).trans h14⟩, HB5⟩
    · have hk' : k = ss.length := by omega
      subst hk'
      have e1 : decide ((ss.length : Int) < (ss.length : Int)) = false := decide_eq_false (by omega)
      have hl1 : l1.take ss.length = l1 := by rw [HLEN.out, List.take_length]
      rw [List.take_length, hl1] at HO ⊢
      have zk : wr.cell? ⟨w.heap.size + 1, 0, none⟩ = some (.bool true) := cell_blk HG.out rfl
      have HF := Aside0.mk (Kd.F_old HF0.out HBr.out)
      clear hl1
      go_wp2
      go_ret3
      exact ⟨_, _, rfl, HF, HO, HBr⟩
end Go.Proofs.YtbbhdbeaikclcaaGreat.X
-- part XNormal
namespace Go.Proofs.YtbbhdbeaikclcaaGreat.X
open Go.RowKit Go.Proofs.YtbbhdbeaikclcaaGreatW.PrintWords Go.Proofs.YtbbhdbeaikclcaaGreatW.PrintLast Go.Proofs.YtbbhdbeaikclcaaGreatW.PrintMore
set_option linter.unusedVariables false
set_option linter.unusedSimpArgs false
theorem at_piece {W : World} {ok : Nat → Prop} {A : Option Addr} {n : Nat} {xs : List Piece} (h : Kd.F k66 W ok A n xs) (k : Nat) (hk : k < n) :
    ∃ ad A1 c1 A2 c2 A3 c3, A = some ad ∧ W.cell? (ad.add (k * 4)) = some (.bool (xs.getD k z66).f0) ∧ W.cell? ⟨(ad.add (k * 4)).block, (ad.add (k * 4)).off + 1, none⟩ = some (.slice A1 (xs.getD k z66).f1.length c1) ∧
      W.cell? ⟨(ad.add (k * 4)).block, (ad.add (k * 4)).off + 2, none⟩ = some (.slice A2 (xs.getD k z66).f2.length c2) ∧ W.cell? ⟨(ad.add (k * 4)).block, (ad.add (k * 4)).off + 3, none⟩ = some (.slice A3 (xs.getD k z66).f3.length c3) ∧
      (xs.getD k z66).f1.length ≤ c1 ∧ Kd.F Kd.string W ok A1 (xs.getD k z66).f1.length (xs.getD k z66).f1 ∧ (xs.getD k z66).f2.length ≤ c2 ∧ Kd.F Kd.string W ok A2 (xs.getD k z66).f2.length (xs.getD k z66).f2 ∧ (xs.getD k z66).f3.length ≤ c3 ∧ Kd.F KSs W ok A3 (xs.getD k z66).f3.length (xs.getD k z66).f3 := by
  obtain ⟨ad, cs, e, hcl, hFK, hcell, _⟩ := Kd.F_get h z66 (k : Int) (by omega) (by omega)
  rw [Int.toNat_natCast] at hFK hcell
  have hc : ∀ j u, cs[j]? = some u → W.cell? (ad.add (k * 4 + j)) = some u := hcell
  obtain ⟨A1, c1, A2, c2, A3, c3, rfl, l1, g1, l2, g2, l3, g3⟩ := k66_openF hFK
  exact ⟨ad, A1, c1, A2, c2, A3, c3, e, hc 0 _ rfl, by rw [← add_field _ _ 1 (by omega)]; exact hc 1 _ rfl, by rw [← add_field _ _ 2 (by omega)]; exact hc 2 _ rfl, by rw [← add_field _ _ 3 (by omega)]; exact hc 3 _ rfl, l1, g1, l2, g2, l3, g3⟩
/-- Is the last piece a text? -/
def textLast (out : List Piece) : Bool := decide (0 < out.length) && !(out.getD (out.length - 1) z66).f0
/-- What a row of pieces is, one more behind it. -/
def putF (out : List Piece) (p : Piece) : List Piece :=
  if p.f0 = true then out ++ [⟨true, [], p.f2, p.f3⟩]
  else if p.f1 = [] then out
  else if textLast out = true then out.set (out.length - 1) ⟨(out.getD (out.length - 1) z66).f0, (out.getD (out.length - 1) z66).f1 ++ p.f1, (out.getD (out.length - 1) z66).f2, (out.getD (out.length - 1) z66).f3⟩
  else out ++ [⟨false, p.f1, [], []⟩]
def normalF (l : List Piece) : List Piece := l.foldl putF []
theorem normalF_snoc (l : List Piece) (p : Piece) : normalF (l ++ [p]) = putF (normalF l) p := by rw [normalF, normalF, List.foldl_append]; rfl
theorem putF_len (out : List Piece) (p : Piece) : (putF out p).length ≤ out.length + 1 := by
  unfold putF
  split
  · simp
  · split
    · omega
    · split
      · rw [List.length_set]; omega
      · simp
/-- The row, where it stands; its pieces lead to what was there (P), or is new. -/
def RowIn (w0 W : World) (B gw : Nat) (P : Nat → Prop) (out : List Piece) : Prop :=
  ∃ vo, W.heap[gw]? = some (.cells #[vo] 143 (0, 0)) ∧ B ≤ gw ∧ Kd.N k66 66 W B (fun k => (P k ∧ k < B ∨ B ≤ k) ∧ k ≠ gw) vo out ∧ Below B w0 W
theorem RowIn.bel {w0 W : World} {B gw : Nat} {P : Nat → Prop} {out : List Piece} (h : RowIn w0 W B gw P out) : Below B w0 W := by
  obtain ⟨vo, q1, q2, q4, q5⟩ := h; exact q5
theorem RowIn.below {w0 W W' : World} {B gw : Nat} {P : Nat → Prop} {out : List Piece} (h : RowIn w0 W B gw P out) (hb : Below W.heap.size W W') (hB : B ≤ W.heap.size) : RowIn w0 W' B gw P out := by
  obtain ⟨vo, q1, q2, q4, q5⟩ := h
  exact ⟨vo, farKeep q1 hb, q2, Kd.N_below q4 hb, q5.trans (hb.mono hB)⟩
set_option maxRecDepth 100000 in
set_option maxHeartbeats 4000000 in
theorem row_last (w : World) (B gw : Nat) (ok : Nat → Prop) (vo : Value) (out : List Piece) (q1 : w.heap[gw]? = some (.cells #[vo] 143 (0, 0))) (q4 : Kd.N k66 66 w B ok vo out) (hl : out.length ≤ 1000000000) :
    Calls Tryz.prog 104 #[.pointer (some ⟨gw, 0, none⟩)] w fun e w' => ∃ p : Option Addr, e = .returned (.pointer p) ∧ Aside0 ((textLast out = false ∧ p = none) ∨ (textLast out = true ∧ ∃ go co, vo = .slice (some ⟨go, 0, none⟩) out.length co ∧ p = some ⟨go, (out.length - 1) * 4, none⟩)) ∧ w' = w := by
  obtain ⟨Ao, co, rfl⟩ := Kd.N_slice q4
  have yw : w.cell? ⟨gw, 0, none⟩ = some (.slice Ao out.length co) := cell_blk q1 rfl
  have Q4 := Aside0.mk q4
  by_cases h0 : out.length = 0
  · have ht : Aside0 (textLast out = false) := ⟨by rw [textLast, decide_eq_false (by omega)]; rfl⟩
    have d1 : ((out.length : Int) == 0) = true := by rw [beq_iff_eq]; omega
    clear q1 q4
    go_enter Tryz.func104, Tryz.ntmps104
    go_wp2
    go_ret
    exact ⟨none, rfl, ⟨.inl ⟨ht.out, rfl⟩⟩, rfl⟩
  · have d1 : ((out.length : Int) == 0) = false := by rw [beq_eq_false_iff_ne]; omega
    obtain ⟨go, cap, hv, hgB, hgl, cellsO, hgc⟩ := Kd.N_form q4 (by omega)
    injection hv with hv1 _ hv3
    subst hv1; subst hv3
    obtain ⟨c, hcl, hFK, hcell, hfr⟩ := Kd.N_elem q4 z66 ((out.length - 1 : Nat) : Int) (by omega) (by omega)
    rw [Int.toNat_natCast] at hFK hcell
    obtain ⟨A1, c1, A2, c2, A3, c3, rfl, _⟩ := k66_openF hFK
    have xb : w.cell? ⟨go, (out.length - 1) * 4, none⟩ = some (.bool (out.getD (out.length - 1) z66).f0) := hcell 0 _ rfl
    obtain ⟨b, hb⟩ : ∃ b, (out.getD (out.length - 1) z66).f0 = b := ⟨_, rfl⟩
    have ht : Aside0 (textLast out = !b) := ⟨by rw [textLast, decide_eq_true (by omega), hb]; rfl⟩
    rw [hb] at xb
    clear hb q1 q4 hFK hcell hcl hgc hfr
    cases b with
    | true =>
      go_enter Tryz.func104, Tryz.ntmps104
      go_wp2
      go_ret
      exact ⟨none, rfl, ⟨.inl ⟨ht.out, rfl⟩⟩, rfl⟩
    | false =>
      go_enter Tryz.func104, Tryz.ntmps104
      go_wp2
      go_ret
      exact ⟨_, rfl, ⟨Or.inr ⟨ht.out, rfl⟩⟩, rfl⟩
end Go.Proofs.YtbbhdbeaikclcaaGreat.X
-- part XNormal2
namespace Go.Proofs.YtbbhdbeaikclcaaGreat.X
open Go.RowKit Go.Proofs.YtbbhdbeaikclcaaGreatW.PrintWords Go.Proofs.YtbbhdbeaikclcaaGreatW.PrintLast Go.Proofs.YtbbhdbeaikclcaaGreatW.PrintMore
set_option linter.unusedVariables false
set_option linter.unusedSimpArgs false
/-- The last piece's text is another one. -/
theorem text_put {W : World} {B gw go n co : Nat} {P : Nat → Prop} {out : List Piece} {A : Option Addr} {m c : Nat} {t : List ByteArray} (h : Kd.N k66 66 W B (fun k => (P k ∧ k < B ∨ B ≤ k) ∧ k ≠ gw) (.slice (some ⟨go, 0, none⟩) n co) out) (hn : 0 < n)
    (ht : Kd.F Kd.string W (fun k => ((P k ∧ k < B ∨ B ≤ k) ∧ k ≠ gw) ∧ k ≠ go) A m t) (hm : t.length = m) (hc : m ≤ c) :
    Kd.N k66 66 (W.setCell ⟨go, (n - 1) * 4 + 1, none⟩ (.slice A m c)) B (fun k => (P k ∧ k < B ∨ B ≤ k) ∧ k ≠ gw) (.slice (some ⟨go, 0, none⟩) n co) (out.set (n - 1) ⟨(out.getD (n - 1) z66).f0, t, (out.getD (n - 1) z66).f2, (out.getD (n - 1) z66).f3⟩) ∧ W.grownBy (W.setCell ⟨go, (n - 1) * 4 + 1, none⟩ (.slice A m c)) (some go) := by
  subst hm
  obtain ⟨cs, hcl, hFK, hcell, hfr⟩ := Kd.N_elem h z66 ((n - 1 : Nat) : Int) (by omega) (by omega)
  have hcc := hcell
  rw [Int.toNat_natCast] at hFK
  obtain ⟨A1, c1, A2, c2, A3, c3, rfl, l1, g1, l2, g2, l3, g3⟩ := k66_openF hFK
  have hmk := k66_mkF W (fun k => ((P k ∧ k < B ∨ B ≤ k) ∧ k ≠ gw) ∧ k ≠ go) (⟨(out.getD (n - 1) z66).f0, t, (out.getD (n - 1) z66).f2, (out.getD (n - 1) z66).f3⟩ : Piece) hc ht l2 g2 l3 g3
  have hs := Kd.N_seg h ((n - 1 : Nat) : Int) (by omega) (by omega) (seg := [.slice A t.length c]) (j := 1) hcl hcc (by show 1 + 1 ≤ 4; omega) hmk (fun k hk => hk)
  rw [Int.toNat_natCast] at hs
  exact hs
set_option maxRecDepth 100000 in
set_option maxHeartbeats 8000000 in
theorem row_put (w0 w : World) (B gw : Nat) (P : Nat → Prop) (out : List Piece) (b : Bool) (s1 s2 : List ByteArray) (s3 : List (List ByteArray)) (A1 : Option Addr) (c1 : Nat) (A2 : Option Addr) (c2 : Nat) (A3 : Option Addr) (c3 : Nat) (hB : B = w0.heap.size) (h : RowIn w0 w B gw P out)
    (l1 : s1.length ≤ c1) (F1 : Kd.F Kd.string w (fun k => P k ∧ k < B) A1 s1.length s1) (l2 : s2.length ≤ c2) (F2 : Kd.F Kd.string w (fun k => P k ∧ k < B) A2 s2.length s2) (l3 : s3.length ≤ c3) (F3 : Kd.F KSs w (fun k => P k ∧ k < B) A3 s3.length s3) (hl : out.length ≤ 100000000) (ht : ∀ p ∈ out, p.f1.length + s1.length ≤ 1000000) :
    Calls Tryz.prog 90 #[.pointer (some ⟨gw, 0, none⟩), .agg #[.bool b, .slice A1 s1.length c1, .slice A2 s2.length c2, .slice A3 s3.length c3]] w fun e w' => e = .returned (.tuple #[]) ∧ Aside0 (RowIn w0 w' B gw P (putF out ⟨b, s1, s2, s3⟩)) := by
  have H := Aside0.mk h
  obtain ⟨vo, q1, q2, q4, q5⟩ := h
  obtain ⟨Ao, co, rfl⟩ := Kd.N_slice q4
  have HBW : Aside0 (B ≤ w.heap.size) := ⟨by rw [hB]; exact (by rw [hB] at q5; exact q5.size)⟩
  have Q1 := Aside0.mk q1
  have Q4 := Aside0.mk q4
  have Q5 := Aside0.mk q5
  have HF1 := Aside0.mk F1
  have HF2 := Aside0.mk F2
  have HF3 := Aside0.mk F3
  have HT := Aside0.mk ht
  have hgw : gw < w.heap.size := blk_lt q1
  clear q1 q4 q5 F1 F2 F3 ht hB
  go_enter Tryz.func90, Tryz.ntmps90
  go_wp2_with fail
  obtain ⟨w1, hw1⟩ : ∃ w1, w.alloc (.cells #[.bool b, .slice A1 s1.length c1, .slice A2 s2.length c2, .slice A3 s3.length c3] 66) = w1 := ⟨_, rfl⟩
  have g1 : w1.heap[w.heap.size]? = some (.cells #[.bool b, .slice A1 s1.length c1, .slice A2 s2.length c2, .slice A3 s3.length c3] 66 (0, 0)) := by rw [← hw1]; exact blk_new _ _
  have HB1 : Aside0 (Below w.heap.size w w1) := ⟨by rw [← hw1]; exact newBelow _ _⟩
  rw [hw1]
  clear hw1
  refine (row_last w1 B gw _ _ out (farKeep Q1.out HB1.out) (Kd.N_below Q4.out HB1.out) (by omega)).mono ?_
  rintro e w1' ⟨p, rfl, HP, rfl⟩
  have z0 : w1'.cell? ⟨w.heap.size, 0, none⟩ = some (.bool b) := cell_blk g1 rfl
  have z1 : w1'.cell? ⟨w.heap.size, 1, none⟩ = some (.slice A1 s1.length c1) := cell_blk g1 rfl
  have z2 : w1'.cell? ⟨w.heap.size, 2, none⟩ = some (.slice A2 s2.length c2) := cell_blk g1 rfl
  have z3 : w1'.cell? ⟨w.heap.size, 3, none⟩ = some (.slice A3 s3.length c3) := cell_blk g1 rfl
  have Q11 := Aside0.mk (farKeep Q1.out HB1.out)
  have Q41 := Aside0.mk (Kd.N_below Q4.out HB1.out)
  have Q51 : Aside0 (Below B w0 w1') := ⟨Q5.out.trans (HB1.out.mono HBW.out)⟩
  have zw : w1'.cell? ⟨gw, 0, none⟩ = some (.slice Ao out.length co) := cell_blk Q11.out rfl
  have HF11 := Aside0.mk (Kd.F_below HF1.out HB1.out)
  have HF21 := Aside0.mk (Kd.F_below HF2.out HB1.out)
  have HF31 := Aside0.mk (Kd.F_below HF3.out HB1.out)
  have HFR : Aside0 (∀ k, w1'.heap.size ≤ k → (P k ∧ k < B ∨ B ≤ k) ∧ k ≠ gw) := ⟨fun k hk => by have := HB1.out.size; have := HBW.out; exact ⟨.inr (by omega), by omega⟩⟩
  have HOKP : Aside0 (∀ k, (P k ∧ k < B) → ((P k ∧ k < B ∨ B ≤ k) ∧ k ≠ gw) ∧ some k ≠ (Value.slice Ao out.length co).ownBlock) := ⟨fun k hk => ⟨⟨.inl hk, by omega⟩, fun e => by have := Kd.N_base Q4.out k e.symm; omega⟩⟩
  clear g1
  cases b with
  | true =>
    have HPUT : Aside0 (putF out ⟨true, s1, s2, s3⟩ = out ++ [⟨true, [], s2, s3⟩]) := ⟨rfl⟩
    go_wp2
    refine start_ (n := 15) (S := fun w' => w'.cell? ⟨gw, 0, none⟩ = some (.slice Ao out.length co) ∧ w'.cell? ⟨w.heap.size, 2, none⟩ = some (.slice A2 s2.length c2) ∧ w'.cell? ⟨w.heap.size, 3, none⟩ = some (.slice A3 s3.length c3)) (ds := [11, 14]) #[false, false, false, false, false, false, false, false, false, false, false, false, false, false, false] (by kernel_rfl) rfl rfl ⟨zw, z2, z3⟩ (fun hHeld => ?_)
    refine pure_ (i := 0) (N := some 22) (v := ?_) (a' := ?_) #[true, false, false, false, false, false, false, false, false, false, false, false, false, false, false] rfl rfl (by kernel_rfl) (fun _ _ _ h => h) (Or.inl ⟨by rfl, ?_⟩) ?_ ?_
    rotate_left
    · intro w'
      go_simp
      with_reducible rfl
    rotate_left
    · simp only [Act.put, List.setIfInBounds_toArray, List.set_cons_zero, List.set_cons_succ, i64_w, i32_w]
      rfl
    refine pure_ (i := 1) (N := some 23) (v := ?_) (a' := ?_) #[true, true, false, false, false, false, false, false, false, false, false, false, false, false, false] rfl rfl (by kernel_rfl) (fun _ _ _ h => h) (Or.inl ⟨by rfl, ?_⟩) ?_ ?_
    rotate_left
    · intro w'
      go_simp
      with_reducible rfl
    rotate_left
    · simp only [Act.put, List.setIfInBounds_toArray, List.set_cons_zero, List.set_cons_succ, i64_w, i32_w]
      rfl
    refine pure_ (i := 2) (N := some 24) (v := ?_) (a' := ?_) #[true, true, true, false, false, false, false, false, false, false, false, false, false, false, false] rfl rfl (by kernel_rfl) (fun _ _ _ h => h) (Or.inl ⟨by rfl, ?_⟩) ?_ ?_
    rotate_left
    · intro w'
      go_simp
      with_reducible rfl
    rotate_left
    · simp only [Act.put, List.setIfInBounds_toArray, List.set_cons_zero, List.set_cons_succ, i64_w, i32_w]
      rfl
    refine pure_ (i := 3) (N := some 25) (v := ?_) (a' := ?_) #[true, true, true, true, false, false, false, false, false, false, false, false, false, false, false] rfl rfl (by kernel_rfl) (fun _ _ _ h => h) (Or.inl ⟨by rfl, ?_⟩) ?_ ?_
    rotate_left
    · intro w'
      go_simp
      with_reducible rfl
    rotate_left
    · simp only [Act.put, List.setIfInBounds_toArray, List.set_cons_zero, List.set_cons_succ, i64_w, i32_w]
      rfl
    refine pure_ (i := 5) (N := some 27) (v := ?_) (a' := ?_) #[true, true, true, true, false, true, false, false, false, false, false, false, false, false, false] rfl rfl (by kernel_rfl) (fun _ _ _ h => h) (Or.inl ⟨by rfl, ?_⟩) ?_ ?_
    rotate_left
    · intro w'
      go_simp
      with_reducible rfl
    rotate_left
    · simp only [Act.put, List.setIfInBounds_toArray, List.set_cons_zero, List.set_cons_succ, i64_w, i32_w]
      rfl
    refine pure_ (i := 7) (N := some 29) (v := ?_) (a' := ?_) #[true, true, true, true, false, true, false, true, false, false, false, false, false, false, false] rfl rfl (by kernel_rfl) (fun _ _ _ h => h) (Or.inl ⟨by rfl, ?_⟩) ?_ ?_
    rotate_left
    · intro w'
      go_simp
      with_reducible rfl
    rotate_left
    · simp only [Act.put, List.setIfInBounds_toArray, List.set_cons_zero, List.set_cons_succ, i64_w, i32_w]
      rfl
    refine take_ (i := 4) (N := some 26) (v := ?_) (a' := ?_) #[true, true, true, true, true, true, false, true, false, false, false, false, false, false, false] rfl rfl (by kernel_rfl) (fun _ _ _ h => h) (Or.inl ⟨by rfl, ?_⟩) hHeld ?_ ?_
    rotate_left
    · rintro w' ⟨s0, s1, s2⟩
      go_simp
      with_reducible rfl
    rotate_left
    · simp only [Act.put, List.setIfInBounds_toArray, List.set_cons_zero, List.set_cons_succ, i64_w, i32_w]
      rfl
    refine take_ (i := 6) (N := some 28) (v := ?_) (a' := ?_) #[true, true, true, true, true, true, true, true, false, false, false, false, false, false, false] rfl rfl (by kernel_rfl) (fun _ _ _ h => h) (Or.inl ⟨by rfl, ?_⟩) hHeld ?_ ?_
    rotate_left
    · rintro w' ⟨s0, s1, s2⟩
      go_simp
      with_reducible rfl
    rotate_left
    · simp only [Act.put, List.setIfInBounds_toArray, List.set_cons_zero, List.set_cons_succ, i64_w, i32_w]
      rfl
    refine take_ (i := 8) (N := some 30) (v := ?_) (a' := ?_) #[true, true, true, true, true, true, true, true, true, false, false, false, false, false, false] rfl rfl (by kernel_rfl) (fun _ _ _ h => h) (Or.inl ⟨by rfl, ?_⟩) hHeld ?_ ?_
    rotate_left
    · rintro w' ⟨s0, s1, s2⟩
      go_simp
      with_reducible rfl
    rotate_left
    · simp only [Act.put, List.setIfInBounds_toArray, List.set_cons_zero, List.set_cons_succ, i64_w, i32_w]
      rfl
    refine pure_ (i := 9) (N := some 31) (v := ?_) (a' := ?_) #[true, true, true, true, true, true, true, true, true, true, false, false, false, false, false] rfl rfl (by kernel_rfl) (fun _ _ _ h => h) (Or.inl ⟨by rfl, ?_⟩) ?_ ?_
    rotate_left
    · intro w'
      go_simp
      with_reducible rfl
    rotate_left
    · simp only [Act.put, List.setIfInBounds_toArray, List.set_cons_zero, List.set_cons_succ, i64_w, i32_w]
      rfl
    refine one_ (i := 10) (N := some 32) #[true, true, true, true, true, true, true, true, true, true, true, false, false, false, false] rfl rfl (by kernel_rfl) (by decide) (fun K hK => ?_)
    refine value_ (w1 := ?_) (v := ?_) (by rfl) rfl ?_ ?_
    rotate_left 2
    · go_simp
      constructor
      · rfl
      · rfl
    refine hK.out _ _ ⟨cell_alloc_of zw _, cell_alloc_of z2 _, cell_alloc_of z3 _⟩ (fun hHeld => ?_)
    clear hK K
    refine norm_ (a' := ?_) ?_ ?_
    rotate_left
    · show Act.put _ (some 32) _ = _
      simp only [Act.put, List.setIfInBounds_toArray, List.set_cons_zero, List.set_cons_succ, i64_w, i32_w]
      rfl
    refine last_ (i := 11) (N := some 33) #[true, true, true, true, true, true, true, true, true, true, true, true, false, false, false] rfl rfl (by kernel_rfl) (by decide) (fun K hK => ?_)
    refine Kd.N_append_step k66 (w0 := w1'.drew) (W := w1'.drew) B (by rfl) (.tmp 26) (.tmp 32) 35 66 (.agg #[.bool false, .slice none 0 0, .slice none 0 0, .slice none 0 0]) 80 rfl Tryz.underlying35 info66 rfl (by decide) (by decide) (.slice Ao out.length co) out (⟨true, [], s2, s3⟩ : Piece) [.bool true, .slice none 0 0, .slice A2 s2.length c2, .slice A3 s3.length c3] (fun k => (P k ∧ k < B ∨ B ≤ k) ∧ k ≠ gw) (fun k => P k ∧ k < B) rfl rfl ?aF HOKP.out HFR.out (Kd.N_drew Q41.out) (Below.refl _ _) (Nat.le_trans HBW.out HB1.out.size) (by omega) ?_
    (case aF => exact k66_mkF _ _ (⟨true, [], s2, s3⟩ : Piece) (Nat.le_refl 0) (Kd.F_nil Kd.string _ _) l2 (Kd.F_drew HF21.out) l3 (Kd.F_drew HF31.out))
    intro v9 w9 ho9 hb9 hg9 hat9
    obtain ⟨A9, c9, hv9⟩ := Kd.N_slice ho9
    subst hv9
    have g9 : w9.heap[gw]? = some (.cells #[.slice Ao out.length co] 143 (0, 0)) := (hg9.block gw (blk_lt Q11.out) (Kd.N_ne Q41.out Q11.out (by decide))).trans Q11.out
    have y9 : w9.cell? ⟨gw, 0, none⟩ = some (.slice Ao out.length co) := cell_blk g9 rfl
    have f9 : w9.frozen? ⟨gw, 0, none⟩ = false := frozen_of_row _ _ _ _ _ g9
    have HO9 := Aside0.mk ho9
    have HB9 := Aside0.mk hb9
    have HG9 := Aside0.mk hg9
    have G9 := Aside0.mk g9
    clear ho9 hb9 hg9 hat9 g9 zw z2 z3
    refine hK.out _ _ ?_
    clear hK K
    refine norm_ (a' := ?_) ?_ ?_
    rotate_left
    · show Act.put _ (some 33) _ = _
      simp only [Act.put, List.setIfInBounds_toArray, List.set_cons_zero, List.set_cons_succ, i64_w, i32_w]
      rfl
    refine pure_ (i := 12) (N := some 34) (v := ?_) (a' := ?_) #[true, true, true, true, true, true, true, true, true, true, true, true, true, false, false] rfl rfl (by kernel_rfl) (fun _ _ _ h => h) (Or.inl ⟨by rfl, ?_⟩) ?_ ?_
    rotate_left
    · intro w'
      go_simp
      with_reducible rfl
    rotate_left
    · simp only [Act.put, List.setIfInBounds_toArray, List.set_cons_zero, List.set_cons_succ, i64_w, i32_w]
      rfl
    refine pure_ (i := 13) (N := some 35) (v := ?_) (a' := ?_) #[true, true, true, true, true, true, true, true, true, true, true, true, true, true, false] rfl rfl (by kernel_rfl) (fun _ _ _ h => h) (Or.inl ⟨by rfl, ?_⟩) ?_ ?_
    rotate_left
    · intro w'
      go_simp
      with_reducible rfl
    rotate_left
    · simp only [Act.put, List.setIfInBounds_toArray, List.set_cons_zero, List.set_cons_succ, i64_w, i32_w]
      rfl
    refine last_ (i := 14) (N := none) #[true, true, true, true, true, true, true, true, true, true, true, true, true, true, true] rfl rfl (by kernel_rfl) (by decide) (fun K hK => ?_)
    refine skip_ (w1 := ?_) (by rfl) rfl ?_ ?_
    rotate_left
    · go_simp
      rfl
    refine hK.out _ _ ?_
    clear hK K
    refine done_ (by kernel_rfl) ?_

    go_end0
    exact ⟨rfl, ⟨⟨.slice A9 (out ++ [(⟨true, [], s2, s3⟩ : Piece)]).length c9, by rw [heap_set_same G9.out]; simp, q2, by rw [HPUT.out]; exact Kd.N_far HO9.out (fun k hk => hk.2) _, (Q51.out.drew.trans HB9.out).setCell (p := ⟨gw, 0, none⟩) q2 _⟩⟩⟩
  | false =>
    by_cases hs1 : s1 = []
    · have HPUT : Aside0 (putF out ⟨false, s1, s2, s3⟩ = out) := ⟨by rw [putF, if_neg (by intro h; cases h), if_pos hs1]⟩
      have hs1l : s1.length = 0 := by rw [hs1]; rfl
      have d1 : ((s1.length : Int) == 0) = true := by rw [beq_iff_eq]; omega
      go_wp2
      go_end0
      exact ⟨rfl, ⟨by rw [HPUT.out]; exact H.out.below HB1.out HBW.out⟩⟩
    · have hs1l : 0 < s1.length := List.length_pos_iff.2 hs1
      have d1 : ((s1.length : Int) == 0) = false := by rw [beq_eq_false_iff_ne]; omega
      rcases HP.out with ⟨htl, rfl⟩ | ⟨htl, go, co', hv, rfl⟩
      · have HPUT : Aside0 (putF out ⟨false, s1, s2, s3⟩ = out ++ [⟨false, s1, [], []⟩]) := ⟨by rw [putF, if_neg (by intro h; cases h), if_neg hs1, if_neg (by rw [htl]; decide)]⟩
        clear htl HP
        go_wp2
        refine start_ (n := 13) (S := fun w' => w'.cell? ⟨gw, 0, none⟩ = some (.slice Ao out.length co) ∧ w'.cell? ⟨w.heap.size, 1, none⟩ = some (.slice A1 s1.length c1)) (ds := [9, 12]) #[false, false, false, false, false, false, false, false, false, false, false, false, false] (by kernel_rfl) rfl rfl ⟨zw, z1⟩ (fun hHeld => ?_)
        refine pure_ (i := 0) (N := some 7) (v := ?_) (a' := ?_) #[true, false, false, false, false, false, false, false, false, false, false, false, false] rfl rfl (by kernel_rfl) (fun _ _ _ h => h) (Or.inl ⟨by rfl, ?_⟩) ?_ ?_
        rotate_left
        · intro w'
          go_simp
          with_reducible rfl
        rotate_left
        · simp only [Act.put, List.setIfInBounds_toArray, List.set_cons_zero, List.set_cons_succ, i64_w, i32_w]
          rfl
        refine pure_ (i := 1) (N := some 8) (v := ?_) (a' := ?_) #[true, true, false, false, false, false, false, false, false, false, false, false, false] rfl rfl (by kernel_rfl) (fun _ _ _ h => h) (Or.inl ⟨by rfl, ?_⟩) ?_ ?_
        rotate_left
        · intro w'
          go_simp
          with_reducible rfl
        rotate_left
        · simp only [Act.put, List.setIfInBounds_toArray, List.set_cons_zero, List.set_cons_succ, i64_w, i32_w]
          rfl
        refine pure_ (i := 2) (N := some 9) (v := ?_) (a' := ?_) #[true, true, true, false, false, false, false, false, false, false, false, false, false] rfl rfl (by kernel_rfl) (fun _ _ _ h => h) (Or.inl ⟨by rfl, ?_⟩) ?_ ?_
        rotate_left
        · intro w'
          go_simp
          with_reducible rfl
        rotate_left
        · simp only [Act.put, List.setIfInBounds_toArray, List.set_cons_zero, List.set_cons_succ, i64_w, i32_w]
          rfl
        refine pure_ (i := 3) (N := some 10) (v := ?_) (a' := ?_) #[true, true, true, true, false, false, false, false, false, false, false, false, false] rfl rfl (by kernel_rfl) (fun _ _ _ h => h) (Or.inl ⟨by rfl, ?_⟩) ?_ ?_
        rotate_left
        · intro w'
          go_simp
          with_reducible rfl
        rotate_left
        · simp only [Act.put, List.setIfInBounds_toArray, List.set_cons_zero, List.set_cons_succ, i64_w, i32_w]
          rfl
        refine pure_ (i := 5) (N := some 12) (v := ?_) (a' := ?_) #[true, true, true, true, false, true, false, false, false, false, false, false, false] rfl rfl (by kernel_rfl) (fun _ _ _ h => h) (Or.inl ⟨by rfl, ?_⟩) ?_ ?_
        rotate_left
        · intro w'
          go_simp
          with_reducible rfl
        rotate_left
        · simp only [Act.put, List.setIfInBounds_toArray, List.set_cons_zero, List.set_cons_succ, i64_w, i32_w]
          rfl
        refine take_ (i := 4) (N := some 11) (v := ?_) (a' := ?_) #[true, true, true, true, true, true, false, false, false, false, false, false, false] rfl rfl (by kernel_rfl) (fun _ _ _ h => h) (Or.inl ⟨by rfl, ?_⟩) hHeld ?_ ?_
        rotate_left
        · rintro w' ⟨s0, s1⟩
          go_simp
          with_reducible rfl
        rotate_left
        · simp only [Act.put, List.setIfInBounds_toArray, List.set_cons_zero, List.set_cons_succ, i64_w, i32_w]
          rfl
        refine take_ (i := 6) (N := some 13) (v := ?_) (a' := ?_) #[true, true, true, true, true, true, true, false, false, false, false, false, false] rfl rfl (by kernel_rfl) (fun _ _ _ h => h) (Or.inl ⟨by rfl, ?_⟩) hHeld ?_ ?_
        rotate_left
        · rintro w' ⟨s0, s1⟩
          go_simp
          with_reducible rfl
        rotate_left
        · simp only [Act.put, List.setIfInBounds_toArray, List.set_cons_zero, List.set_cons_succ, i64_w, i32_w]
          rfl
        refine pure_ (i := 7) (N := some 14) (v := ?_) (a' := ?_) #[true, true, true, true, true, true, true, true, false, false, false, false, false] rfl rfl (by kernel_rfl) (fun _ _ _ h => h) (Or.inl ⟨by rfl, ?_⟩) ?_ ?_
        rotate_left
        · intro w'
          go_simp
          with_reducible rfl
        rotate_left
        · simp only [Act.put, List.setIfInBounds_toArray, List.set_cons_zero, List.set_cons_succ, i64_w, i32_w]
          rfl
        refine one_ (i := 8) (N := some 15) #[true, true, true, true, true, true, true, true, true, false, false, false, false] rfl rfl (by kernel_rfl) (by decide) (fun K hK => ?_)
        refine value_ (w1 := ?_) (v := ?_) (by rfl) rfl ?_ ?_
        rotate_left 2
        · go_simp
          constructor
          · rfl
          · rfl
        refine hK.out _ _ ⟨cell_alloc_of zw _, cell_alloc_of z1 _⟩ (fun hHeld => ?_)
        clear hK K
        refine norm_ (a' := ?_) ?_ ?_
        rotate_left
        · show Act.put _ (some 15) _ = _
          simp only [Act.put, List.setIfInBounds_toArray, List.set_cons_zero, List.set_cons_succ, i64_w, i32_w]
          rfl
        refine last_ (i := 9) (N := some 16) #[true, true, true, true, true, true, true, true, true, true, false, false, false] rfl rfl (by kernel_rfl) (by decide) (fun K hK => ?_)
        refine Kd.N_append_step k66 (w0 := w1'.drew) (W := w1'.drew) B (by rfl) (.tmp 11) (.tmp 15) 35 66 (.agg #[.bool false, .slice none 0 0, .slice none 0 0, .slice none 0 0]) 80 rfl Tryz.underlying35 info66 rfl (by decide) (by decide) (.slice Ao out.length co) out (⟨false, s1, [], []⟩ : Piece) [.bool false, .slice A1 s1.length c1, .slice none 0 0, .slice none 0 0] (fun k => (P k ∧ k < B ∨ B ≤ k) ∧ k ≠ gw) (fun k => P k ∧ k < B) rfl rfl ?aF HOKP.out HFR.out (Kd.N_drew Q41.out) (Below.refl _ _) (Nat.le_trans HBW.out HB1.out.size) (by omega) ?_
        (case aF => exact k66_mkF _ _ (⟨false, s1, [], []⟩ : Piece) l1 (Kd.F_drew HF11.out) (Nat.le_refl 0) (Kd.F_nil Kd.string _ _) (Nat.le_refl 0) (Kd.F_nil KSs _ _))
        intro v9 w9 ho9 hb9 hg9 hat9
        obtain ⟨A9, c9, hv9⟩ := Kd.N_slice ho9
        subst hv9
        have g9 : w9.heap[gw]? = some (.cells #[.slice Ao out.length co] 143 (0, 0)) := (hg9.block gw (blk_lt Q11.out) (Kd.N_ne Q41.out Q11.out (by decide))).trans Q11.out
        have y9 : w9.cell? ⟨gw, 0, none⟩ = some (.slice Ao out.length co) := cell_blk g9 rfl
        have f9 : w9.frozen? ⟨gw, 0, none⟩ = false := frozen_of_row _ _ _ _ _ g9
        have HO9 := Aside0.mk ho9
        have HB9 := Aside0.mk hb9
        have HG9 := Aside0.mk hg9
        have G9 := Aside0.mk g9
        clear ho9 hb9 hg9 hat9 g9 zw z1
        refine hK.out _ _ ?_
        clear hK K
        refine norm_ (a' := ?_) ?_ ?_
        rotate_left
        · show Act.put _ (some 16) _ = _
          simp only [Act.put, List.setIfInBounds_toArray, List.set_cons_zero, List.set_cons_succ, i64_w, i32_w]
          rfl
        refine pure_ (i := 10) (N := some 17) (v := ?_) (a' := ?_) #[true, true, true, true, true, true, true, true, true, true, true, false, false] rfl rfl (by kernel_rfl) (fun _ _ _ h => h) (Or.inl ⟨by rfl, ?_⟩) ?_ ?_
        rotate_left
        · intro w'
          go_simp
          with_reducible rfl
        rotate_left
        · simp only [Act.put, List.setIfInBounds_toArray, List.set_cons_zero, List.set_cons_succ, i64_w, i32_w]
          rfl
        refine pure_ (i := 11) (N := some 18) (v := ?_) (a' := ?_) #[true, true, true, true, true, true, true, true, true, true, true, true, false] rfl rfl (by kernel_rfl) (fun _ _ _ h => h) (Or.inl ⟨by rfl, ?_⟩) ?_ ?_
        rotate_left
        · intro w'
          go_simp
          with_reducible rfl
        rotate_left
        · simp only [Act.put, List.setIfInBounds_toArray, List.set_cons_zero, List.set_cons_succ, i64_w, i32_w]
          rfl
        refine last_ (i := 12) (N := none) #[true, true, true, true, true, true, true, true, true, true, true, true, true] rfl rfl (by kernel_rfl) (by decide) (fun K hK => ?_)
        refine skip_ (w1 := ?_) (by rfl) rfl ?_ ?_
        rotate_left
        · go_simp
          rfl
        refine hK.out _ _ ?_
        clear hK K
        refine done_ (by kernel_rfl) ?_

        go_end0
        exact ⟨rfl, ⟨⟨.slice A9 (out ++ [(⟨false, s1, [], []⟩ : Piece)]).length c9, by rw [heap_set_same G9.out]; simp, q2, by rw [HPUT.out]; exact Kd.N_far HO9.out (fun k hk => hk.2) _, (Q51.out.drew.trans HB9.out).setCell (p := ⟨gw, 0, none⟩) q2 _⟩⟩⟩
      · injection hv with hv1 _ hv3
        subst hv1; subst hv3
        have hol : 0 < out.length := by
          rw [textLast, Bool.and_eq_true] at htl
          exact of_decide_eq_true htl.1
        have hgd : out.getD (out.length - 1) z66 ∈ out := by rw [getD_get (by omega)]; exact List.getElem_mem _
        have hlen := HT.out _ hgd
        obtain ⟨cs, hcl, hFK, hcell, hfr⟩ := Kd.N_elem Q41.out z66 ((out.length - 1 : Nat) : Int) (by omega) (by omega)
        rw [Int.toNat_natCast] at hFK hcell hfr
        obtain ⟨At, ct, A2', c2', A3', c3', rfl, lt_, gt_, _⟩ := k66_openF hFK
        have yt : w1'.cell? ⟨go, (out.length - 1) * 4 + 1, none⟩ = some (.slice At (out.getD (out.length - 1) z66).f1.length ct) := hcell 1 _ rfl
        have HPUT : Aside0 (putF out ⟨false, s1, s2, s3⟩ = out.set (out.length - 1) ⟨(out.getD (out.length - 1) z66).f0, (out.getD (out.length - 1) z66).f1 ++ s1, (out.getD (out.length - 1) z66).f2, (out.getD (out.length - 1) z66).f3⟩) := ⟨by rw [putF, if_neg (by intro h; cases h), if_neg hs1, if_pos htl]⟩
        obtain ⟨t, hte⟩ : ∃ t, (out.getD (out.length - 1) z66).f1 = t := ⟨_, rfl⟩
        rw [hte] at hlen lt_ gt_ yt HPUT
        have HGT := Aside0.mk gt_
        have HLEN := Aside0.mk hlen
        obtain ⟨w4, hw4⟩ : ∃ w4, w1'.drew.alloc (.cells #[.slice At t.length ct, .slice A1 s1.length c1] 22) = w4 := ⟨_, rfl⟩
        have HB4 : Aside0 (Below w1'.heap.size w1' w4) := ⟨by rw [← hw4]; exact (Below.refl _ w1').drew.alloc (Nat.le_refl _) _⟩
        have HC4 : Aside0 (Kd.C (Kd.slice 9 Kd.string) w4 (some ⟨w1'.heap.size, 0, none⟩) [t, s1].length [t, s1]) := ⟨by
          have k0 : (Kd.slice 9 Kd.string).K w4 t [.slice At t.length ct] := ⟨At, ct, rfl, lt_, Kd.C_below (Kd.F_now HGT.out) HB4.out⟩
          have k1 : (Kd.slice 9 Kd.string).K w4 s1 [.slice A1 s1.length c1] := ⟨A1, c1, rfl, l1, Kd.C_below (Kd.F_now HF11.out) HB4.out⟩
          have qq : w4.heap[w1'.heap.size]? = some (.cells #[.slice At t.length ct, .slice A1 s1.length c1] 22 (0, 0)) := by rw [← hw4]; exact blk_new _ _
          exact C_blk (d := Kd.slice 9 Kd.string) (xs := [t, s1]) (inner := [.slice At t.length ct, .slice A1 s1.length c1]) qq (Reps.one k0 (Reps.one k1 (Reps.none _ _))) (by simp)⟩
        have HS4 : Aside0 (w4.heap.size = w1'.heap.size + 1) := ⟨by rw [← hw4]; simp⟩
        have HCON : Aside0 (Calls Tryz.prog 105 #[.slice (some ⟨w1'.heap.size, 0, none⟩) 2 2] w4 fun e w' => ∃ v, e = .returned v ∧ Aside0 (Kd.R Kd.string 9 w' w4.heap.size (fun _ => True) v (t ++ s1)) ∧ Aside0 (Below w4.heap.size w4 w')) := ⟨by
          have := concat_strs (some ⟨w1'.heap.size, 0, none⟩) 2 [t, s1] w4 HC4.out (by simp) (by simp) (by simp; have := HLEN.out; omega)
          have e : ([t, s1] : List (List ByteArray)).flatten = t ++ s1 := by simp
          rw [e] at this
          exact this⟩
        have hgol : go < w1'.heap.size := Kd.N_lt Q41.out go (by simp [Value.ownBlock])
        have hgoB : B ≤ go := Kd.N_base Q41.out go (by simp [Value.ownBlock])
        clear htl HP hgd hFK hcell hcl hlen gt_ lt_ hte hfr
        go_wp2
        refine start_ (n := 12) (S := fun w' => w'.cell? ⟨go, (out.length - 1) * 4 + 1, none⟩ = some (.slice At t.length ct) ∧ w'.cell? ⟨w.heap.size, 1, none⟩ = some (.slice A1 s1.length c1)) (ds := [7, 8, 11]) #[false, false, false, false, false, false, false, false, false, false, false, false] (by kernel_rfl) rfl rfl ⟨yt, z1⟩ (fun hHeld => ?_)
        refine pure_ (i := 0) (N := some 44) (v := ?_) (a' := ?_) #[true, false, false, false, false, false, false, false, false, false, false, false] rfl rfl (by kernel_rfl) (fun _ _ _ h => h) (Or.inl ⟨by rfl, ?_⟩) ?_ ?_
        rotate_left
        · intro w'
          go_simp
          with_reducible rfl
        rotate_left
        · simp only [Act.put, List.setIfInBounds_toArray, List.set_cons_zero, List.set_cons_succ, i64_w, i32_w]
          rfl
        refine pure_ (i := 1) (N := some 45) (v := ?_) (a' := ?_) #[true, true, false, false, false, false, false, false, false, false, false, false] rfl rfl (by kernel_rfl) (fun _ _ _ h => h) (Or.inl ⟨by rfl, ?_⟩) ?_ ?_
        rotate_left
        · intro w'
          go_simp
          with_reducible rfl
        rotate_left
        · simp only [Act.put, List.setIfInBounds_toArray, List.set_cons_zero, List.set_cons_succ, i64_w, i32_w]
          rfl
        refine pure_ (i := 2) (N := some 46) (v := ?_) (a' := ?_) #[true, true, true, false, false, false, false, false, false, false, false, false] rfl rfl (by kernel_rfl) (fun _ _ _ h => h) (Or.inl ⟨by rfl, ?_⟩) ?_ ?_
        rotate_left
        · intro w'
          go_simp
          with_reducible rfl
        rotate_left
        · simp only [Act.put, List.setIfInBounds_toArray, List.set_cons_zero, List.set_cons_succ, i64_w, i32_w]
          rfl
        refine pure_ (i := 3) (N := some 47) (v := ?_) (a' := ?_) #[true, true, true, true, false, false, false, false, false, false, false, false] rfl rfl (by kernel_rfl) (fun _ _ _ h => h) (Or.inl ⟨by rfl, ?_⟩) ?_ ?_
        rotate_left
        · intro w'
          go_simp
          with_reducible rfl
        rotate_left
        · simp only [Act.put, List.setIfInBounds_toArray, List.set_cons_zero, List.set_cons_succ, i64_w, i32_w]
          rfl
        refine pure_ (i := 5) (N := some 49) (v := ?_) (a' := ?_) #[true, true, true, true, false, true, false, false, false, false, false, false] rfl rfl (by kernel_rfl) (fun _ _ _ h => h) (Or.inl ⟨by rfl, ?_⟩) ?_ ?_
        rotate_left
        · intro w'
          go_simp
          with_reducible rfl
        rotate_left
        · simp only [Act.put, List.setIfInBounds_toArray, List.set_cons_zero, List.set_cons_succ, i64_w, i32_w]
          rfl
        refine take_ (i := 4) (N := some 48) (v := ?_) (a' := ?_) #[true, true, true, true, true, true, false, false, false, false, false, false] rfl rfl (by kernel_rfl) (fun _ _ _ h => h) (Or.inl ⟨by rfl, ?_⟩) hHeld ?_ ?_
        rotate_left
        · rintro w' ⟨s0, s1⟩
          go_simp
          with_reducible rfl
        rotate_left
        · simp only [Act.put, List.setIfInBounds_toArray, List.set_cons_zero, List.set_cons_succ, i64_w, i32_w]
          rfl
        refine take_ (i := 6) (N := some 50) (v := ?_) (a' := ?_) #[true, true, true, true, true, true, true, false, false, false, false, false] rfl rfl (by kernel_rfl) (fun _ _ _ h => h) (Or.inl ⟨by rfl, ?_⟩) hHeld ?_ ?_
        rotate_left
        · rintro w' ⟨s0, s1⟩
          go_simp
          with_reducible rfl
        rotate_left
        · simp only [Act.put, List.setIfInBounds_toArray, List.set_cons_zero, List.set_cons_succ, i64_w, i32_w]
          rfl
        refine last_ (i := 7) (N := some 51) #[true, true, true, true, true, true, true, true, false, false, false, false] rfl rfl (by kernel_rfl) (by decide) (fun K hK => ?_)
        refine value_ (w1 := ?_) (v := ?_) (by rfl) rfl ?_ ?_
        rotate_left 2
        · go_simp
          constructor
          · rfl
          · rfl
        try rw [hw4]
        clear hw4
        refine hK.out _ _ ?_
        clear hK K
        refine norm_ (a' := ?_) ?_ ?_
        rotate_left
        · show Act.put _ (some 51) _ = _
          simp only [Act.put, List.setIfInBounds_toArray, List.set_cons_zero, List.set_cons_succ, i64_w, i32_w]
          rfl
        refine last_ (i := 8) (N := some 52) #[true, true, true, true, true, true, true, true, true, false, false, false] rfl rfl (by kernel_rfl) (by decide) (fun K hK => ?_)
        refine goes_ Tryz.func105 (by kernel_rfl) rfl #[.slice (some ⟨w1'.heap.size, 0, none⟩) 2 2] (by rfl) rfl rfl (by simp only [List.map_toArray, List.map_cons, List.map_nil]; rfl) ?_
        with_reducible refine (HCON.out).mono ?_
        rintro e w5 ⟨v5, rfl, HR5, HB5⟩
        refine ⟨_, rfl, ?_⟩
        obtain ⟨A5, c5, hv5⟩ := Kd.R_slice HR5.out
        subst hv5
        have HB15 := Aside0.mk (far_ HB4.out HB5.out)
        have hN5 := Kd.N_below Q41.out HB15.out
        obtain ⟨cs5, hcl5, hFK5, hcell5, hfr5⟩ := Kd.N_elem hN5 z66 ((out.length - 1 : Nat) : Int) (by omega) (by omega)
        have y5 : w5.cell? ⟨go, (out.length - 1) * 4 + 1, none⟩ = some (.slice At t.length ct) := (HB15.out.cell (p := ⟨go, (out.length - 1) * 4 + 1, none⟩) hgol).trans yt
        have f5 : w5.frozen? ⟨go, (out.length - 1) * 4 + 1, none⟩ = false := hfr5 1
        have HN5 := Aside0.mk hN5
        clear hN5 hFK5 hcell5 hfr5 hcl5 yt
        refine hK.out _ _ ?_
        clear hK K
        refine norm_ (a' := ?_) ?_ ?_
        rotate_left
        · show Act.put _ (some 52) _ = _
          simp only [Act.put, List.setIfInBounds_toArray, List.set_cons_zero, List.set_cons_succ, i64_w, i32_w]
          rfl
        refine pure_ (i := 9) (N := some 53) (v := ?_) (a' := ?_) #[true, true, true, true, true, true, true, true, true, true, false, false] rfl rfl (by kernel_rfl) (fun _ _ _ h => h) (Or.inl ⟨by rfl, ?_⟩) ?_ ?_
        rotate_left
        · intro w'
          go_simp
          with_reducible rfl
        rotate_left
        · simp only [Act.put, List.setIfInBounds_toArray, List.set_cons_zero, List.set_cons_succ, i64_w, i32_w]
          rfl
        refine pure_ (i := 10) (N := some 54) (v := ?_) (a' := ?_) #[true, true, true, true, true, true, true, true, true, true, true, false] rfl rfl (by kernel_rfl) (fun _ _ _ h => h) (Or.inl ⟨by rfl, ?_⟩) ?_ ?_
        rotate_left
        · intro w'
          go_simp
          with_reducible rfl
        rotate_left
        · simp only [Act.put, List.setIfInBounds_toArray, List.set_cons_zero, List.set_cons_succ, i64_w, i32_w]
          rfl
        refine last_ (i := 11) (N := none) #[true, true, true, true, true, true, true, true, true, true, true, true] rfl rfl (by kernel_rfl) (by decide) (fun K hK => ?_)
        refine skip_ (w1 := ?_) (by rfl) rfl ?_ ?_
        rotate_left
        · go_simp
          rfl
        refine hK.out _ _ ?_
        clear hK K
        refine done_ (by kernel_rfl) ?_

        go_end0
        have hF5 : Kd.F Kd.string w5 (fun k => ((P k ∧ k < B ∨ B ≤ k) ∧ k ≠ gw) ∧ k ≠ go) A5 (t ++ s1).length (t ++ s1) := Kd.F_mono (Kd.R_F (Kd.R_bound HR5.out)) (fun k hk => by
          have h1 := hk.2.1
          have h2 := HS4.out
          have h3 := HB1.out.size
          have h4 := HBW.out
          exact ⟨⟨.inr (by omega), by omega⟩, by omega⟩)
        obtain ⟨hput, hgr⟩ := text_put HN5.out hol hF5 rfl (Kd.R_reads' HR5.out).2.1
        have g5 := farKeep Q11.out HB15.out
        refine ⟨rfl, ⟨⟨.slice (some ⟨go, 0, none⟩) out.length co, ?_, q2, ?_, (Q51.out.trans (HB15.out.mono (Nat.le_trans HBW.out HB1.out.size))).setCell (p := ⟨go, (out.length - 1) * 4 + 1, none⟩) hgoB _⟩⟩⟩
        · exact setKeep g5 (fun e => Kd.N_ne HN5.out g5 (by decide) (by rw [e]; simp [Value.ownBlock])) _
        · rw [HPUT.out]
          rw [List.length_append] at hput
          exact hput
/-- How many texts' lines pieces have. -/
def tsum (l : List Piece) : Nat := (l.map (fun p => p.f1.length)).sum
theorem tsum_append (a b : List Piece) : tsum (a ++ b) = tsum a + tsum b := by rw [tsum, List.map_append, List.sum_append]; rfl
theorem tsum_one (p : Piece) : tsum [p] = p.f1.length := by simp [tsum]
theorem tsum_mem {l : List Piece} {p : Piece} (h : p ∈ l) : p.f1.length ≤ tsum l := by
  obtain ⟨a, b, rfl⟩ := List.append_of_mem h
  rw [tsum_append, show p :: b = [p] ++ b from rfl, tsum_append, tsum_one]; omega
theorem set_last {α : Type} {l : List α} (h : 0 < l.length) (x : α) : l.set (l.length - 1) x = l.take (l.length - 1) ++ [x] := by
  rw [List.set_eq_take_append_cons_drop, if_pos (by omega), List.drop_of_length_le (by omega)]
theorem take_last {α : Type} {l : List α} (h : 0 < l.length) (z : α) : l = l.take (l.length - 1) ++ [l.getD (l.length - 1) z] := by
  have := List.take_append_getElem (l := l) (i := l.length - 1) (by omega)
  rw [getD_get (by omega), this, List.take_of_length_le (by omega)]
theorem tsum_put (out : List Piece) (p : Piece) : tsum (putF out p) ≤ tsum out + p.f1.length := by
  unfold putF
  split
  · rw [tsum_append, tsum_one]; simp
  · split
    · omega
    · split
      · rename_i h
        rw [textLast, Bool.and_eq_true] at h
        have hl := of_decide_eq_true h.1
        rw [set_last hl, tsum_append, tsum_one]
        have h2 : tsum out = tsum (out.take (out.length - 1)) + (out.getD (out.length - 1) z66).f1.length := by
          conv => lhs; rw [take_last hl z66]
          rw [tsum_append, tsum_one]
        rw [h2]
        show _ + ((out.getD (out.length - 1) z66).f1 ++ p.f1).length ≤ _
        rw [List.length_append]; omega
      · rw [tsum_append, tsum_one]; exact Nat.le_refl _
theorem tsum_normal : ∀ (n : Nat) (l : List Piece), l.length = n → tsum (normalF l) ≤ tsum l ∧ (normalF l).length ≤ l.length
  | 0, l, h => by rw [List.eq_nil_of_length_eq_zero h]; exact ⟨Nat.le_refl _, Nat.le_refl _⟩
  | n + 1, l, h => by
    have e : l = l.take n ++ [l[n]] := by
      have := List.take_append_getElem (l := l) (i := n) (by omega)
      rw [this, List.take_of_length_le (by omega)]
    have ih := tsum_normal n (l.take n) (by rw [List.length_take]; omega)
    rw [e, normalF_snoc, tsum_append, tsum_one, List.length_append, List.length_singleton]
    have := tsum_put (normalF (l.take n)) l[n]
    have := putF_len (normalF (l.take n)) l[n]
    omega
theorem tsum_take (l : List Piece) (k : Nat) (hk : k < l.length) : tsum (l.take k) + l[k].f1.length ≤ tsum l := by
  have e : l = l.take k ++ (l[k] :: l.drop (k + 1)) := by rw [← dropCons hk, List.take_append_drop]
  have : tsum l = tsum (l.take k) + (l[k].f1.length + tsum (l.drop (k + 1))) := by
    conv => lhs; rw [e]
    rw [tsum_append, show l[k] :: l.drop (k + 1) = [l[k]] ++ l.drop (k + 1) from rfl, tsum_append, tsum_one]
  omega
set_option maxRecDepth 100000 in
set_option maxHeartbeats 4000000 in
theorem each_put (A : Option Addr) (c : Nat) (l : List Piece) (w0 w : World) (B gw : Nat) (P : Nat → Prop) (hB : B = w0.heap.size) (hF : Kd.F k66 w0 P A l.length l) (hc : l.length ≤ c) (h : RowIn w0 w B gw P []) (hl : l.length ≤ 100000000) (hz : tsum l ≤ 1000000) :
    Calls Tryz.prog 52 #[.slice A l.length c, .func (.func 90) #[.pointer (some ⟨gw, 0, none⟩)] #[]] w fun e w' => e = .returned (.tuple #[]) ∧ Aside0 (RowIn w0 w' B gw P (normalF l)) := by
  have HF := Aside0.mk hF
  have H := Aside0.mk h
  have HZ := Aside0.mk hz
  have HBB := Aside0.mk hB
  clear hF h hz hB
  go_enter Tryz.func52, Tryz.ntmps52
  go_wp2_with fail
  go_loopw [8] (fun i wr => ∃ (k : Nat), k ≤ l.length ∧ i = .int .i64 k ∧ Aside0 (RowIn w0 wr B gw P (normalF (l.take k)))) (fun i _ => l.length - (intOf i).toNat)
  case atStart => exact ⟨0, Nat.zero_le _, rfl, H⟩
  case round =>
    obtain ⟨k, hk, rfl, HI⟩ := hrel
    have HBr : Aside0 (Below w0.heap.size w0 wr) := ⟨by rw [← HBB.out]; exact HI.out.bel⟩
    by_cases hlt : k < l.length
    · obtain ⟨ad, A1, c1, A2, c2, A3, c3, rfl, x0, x1, x2, x3, l1, F1, l2, F2, l3, F3⟩ := at_piece (Kd.F_old HF.out HBr.out) k hlt
      rw [getD_get hlt] at x0 x1 x2 x3 l1 F1 l2 F2 l3 F3
      have htk : normalF (l.take (k + 1)) = putF (normalF (l.take k)) l[k] := by rw [← List.take_append_getElem hlt, normalF_snoc]
      have hts := tsum_take l k hlt
      have htn := tsum_normal _ (l.take k) rfl
      have hle : (normalF (l.take k)).length ≤ 100000000 := by have := htn.2; rw [List.length_take] at this; omega
      obtain ⟨x, hxe⟩ : ∃ x, l[k] = x := ⟨_, rfl⟩
      rw [hxe] at htk hts x0 x1 x2 x3 l1 F1 l2 F2 l3 F3
      obtain ⟨b, s1, s2, s3⟩ := x
      dsimp only at x0 x1 x2 x3 l1 F1 l2 F2 l3 F3 hts
      have HT : Aside0 (∀ p ∈ normalF (l.take k), p.f1.length + s1.length ≤ 1000000) := ⟨fun p hp => by have := tsum_mem hp; have := HZ.out; have := htn.1; omega⟩
      rw [← HBB.out] at F1 F2 F3
      have HTK := Aside0.mk htk
      have HF1 := Aside0.mk F1
      have HF2 := Aside0.mk F2
      have HF3 := Aside0.mk F3
      have HBw : Aside0 (B ≤ wr.heap.size) := ⟨by rw [HBB.out]; exact HBr.out.size⟩
      clear hxe htk F1 F2 F3 hts htn
      go_wp2_with fail
      refine (row_put w0 _ B gw P _ b s1 s2 s3 A1 c1 A2 c2 A3 c3 HBB.out (HI.out.below (newBelow _ _) HBw.out) l1 (Kd.F_alloc HF1.out _) l2 (Kd.F_alloc HF2.out _) l3 (Kd.F_alloc HF3.out _) hle HT.out).mono ?_
      rintro e w1 ⟨rfl, HI1⟩
      go_wp2
      go_roundw
      case measure => simp [intOf]; omega
      case rel => exact ⟨k + 1, by omega, by go_num, by rw [HTK.out]; exact HI1⟩
    · have hk' : k = l.length := by omega
      subst hk'
      rw [List.take_length] at HI
      go_wp2
      go_end0
      exact ⟨rfl, HI⟩
set_option maxRecDepth 100000 in
set_option maxHeartbeats 2000000 in
theorem pick_Normal (P : Nat → Prop) (A : Option Addr) (c : Nat) (l : List Piece) (w : World) (hF : Kd.F k66 w P A l.length l) (hc : l.length ≤ c) (hl : l.length ≤ 100000000) (hz : tsum l ≤ 1000000) :
    Calls Tryz.prog 44 #[.slice A l.length c] w fun e w' => ∃ v0_ : Value, e = .returned v0_ ∧ Kd.N k66 66 w' w.heap.size (fun k => P k ∨ w.heap.size ≤ k) v0_ (normalF l) ∧ Below w.heap.size w w' := by
  have HF := Aside0.mk hF
  have HZ := Aside0.mk hz
  clear hF hz
  have hmf : ∀ (fn : Fn) (first cap : Array Value) (w : World), (Instr.makeFunc fn first cap).run Tryz.prog w = .ok (.func fn first cap) w := fun _ _ _ _ => rfl
  go_enter Tryz.func44, Tryz.ntmps44
  go_wp2_with fail
  obtain ⟨w2, hw2⟩ : ∃ w2, w.alloc (.cells #[.slice none 0 0] 143) = w2 := ⟨_, rfl⟩
  have hI : RowIn w w2 w.heap.size w.heap.size P [] := ⟨.slice none 0 0, by rw [← hw2]; exact blk_new _ _, Nat.le_refl _, Kd.N_nil _ _ _ _ _, by rw [← hw2]; exact newBelow _ _⟩
  rw [hw2]
  refine (each_put A c l w w2 w.heap.size _ P rfl HF.out hc hI hl HZ.out).mono ?_
  clear hw2 hI
  rintro e w3 ⟨rfl, HI⟩
  obtain ⟨vo, q1, q2, q4, q5⟩ := HI.out
  have c1 : w3.cell? ⟨w.heap.size, 0, none⟩ = some vo := cell_blk q1 rfl
  have Q4 := Aside0.mk q4
  have Q5 := Aside0.mk q5
  clear q1 q2 q4 q5
  go_wp2
  go_ret
  exact ⟨_, rfl, Kd.N_mono Q4.out (fun k hk => hk.1.elim (fun h => .inl h.1) .inr), Q5.out⟩
end Go.Proofs.YtbbhdbeaikclcaaGreat.X
-- part XLcs3
namespace Go.Proofs.YtbbhdbeaikclcaaGreat.X
open Go.RowKit Go.Proofs.YtbbhdbeaikclcaaGreatW.PrintWords Go.Proofs.YtbbhdbeaikclcaaGreatW.PrintLast Go.Proofs.YtbbhdbeaikclcaaGreatW.PrintMore
set_option linter.unusedVariables false
set_option linter.unusedSimpArgs false
theorem madeCells_one (z : Value) (n : Nat) : madeCells #[z] (n * 1) = (List.replicate n z).toArray := by
  apply Array.ext
  · simp [size_madeCells]
  · intro i h1 h2
    simp [madeCells, Nat.mod_one]

/-- How the row stands when its first m places are laid. -/
def repRow (v : Int) (m n : Nat) : List Value := List.replicate m (.int .i64 v) ++ List.replicate (n - m) (.int .i64 0)
theorem repRow_length (v : Int) {m n : Nat} (h : m ≤ n) : (repRow v m n).length = n := by simp [repRow]; omega
theorem splice_rep (v : Int) {m k n : Nat} (h : m + k ≤ n) : splice (repRow v m n) m (List.replicate k (.int .i64 v)) = repRow v (m + k) n := by
  unfold splice repRow
  have h1 : (List.replicate m (Value.int .i64 v) ++ List.replicate (n - m) (Value.int .i64 0)).take m = List.replicate m (Value.int .i64 v) := List.take_left' (by simp)
  have h2 : (List.replicate m (Value.int .i64 v) ++ List.replicate (n - m) (Value.int .i64 0)).drop (m + (List.replicate k (Value.int .i64 v)).length) = List.replicate (n - (m + k)) (Value.int .i64 0) := by
    rw [List.length_replicate, List.drop_append, List.drop_of_length_le (by simp), List.nil_append, List.length_replicate, List.drop_replicate]
    congr 1
    omega
  rw [h1, h2, ← List.append_assoc, List.replicate_append_replicate]

theorem rep_cells {W : World} {ad : Addr} {v : Int} {m : Nat} (h : W.cell? ad = some (.int .i64 v)) (hm : m ≤ 1) (j : Nat) (u : Value) (hj : (List.replicate m (Value.int .i64 v))[j]? = some u) : W.cell? (ad.add j) = some u := by
  rw [List.getElem?_replicate] at hj
  split at hj
  · have hj0 : j = 0 := by omega
    subst hj0
    injection hj with hj
    subst hj
    rw [show ad.add 0 = ad from by cases ad; simp [Addr.add]]
    exact h
  · cases hj
theorem rep_cells_row {W : World} {g : Nat} {v : Int} {m k n : Nat} {t : TypeId} (h : W.heap[g]? = some (.cells (repRow v m n).toArray t (0, 0))) (hk : k ≤ m) (j : Nat) (u : Value) (hj : (List.replicate k (Value.int .i64 v))[j]? = some u) : W.cell? ((⟨g, 0, none⟩ : Addr).add j) = some u := by
  rw [List.getElem?_replicate] at hj
  split at hj
  · rename_i hjk
    injection hj with hj
    subst hj
    rw [add_plain, cell_of_row W g j _ t (0, 0) h]
    simp [repRow, List.getElem?_append, List.getElem?_replicate, Nat.lt_of_lt_of_le hjk hk]
  · cases hj
theorem rep_wrap {m n : Nat} (hlt : m < n) (hn : n ≤ 2000) : wrap64 ((m : Int) + ((Nat.min m (n - m) : Nat) : Int)) = ((m + Nat.min m (n - m) : Nat) : Int) := by
  have h : Nat.min m (n - m) ≤ n - m := Nat.min_le_right _ _
  rw [IntWalk.wrap64_in _ (by omega)]
  exact (Int.natCast_add _ _).symm
theorem rep_measure {m n : Nat} (hlt : m < n) (h0 : 0 < m) : n - (intOf (Value.int .i64 ((m + Nat.min m (n - m) : Nat) : Int))).toNat < n - (intOf (Value.int .i64 (m : Int))).toNat := by
  show n - (m + min m (n - m)) < n - m
  omega
set_option maxHeartbeats 4000000 in
set_option maxRecDepth 100000 in
theorem slices_Repeat_one (ad : Addr) (c : Nat) (v : Int) (n : Nat) (w : World) (hc : w.cell? ad = some (.int .i64 v)) (hn : n ≤ 2000) :
    Calls Tryz.prog 70 #[.slice (some ad) 1 c, .int .i64 n] w fun e w' => ∃ v0_ : Value, e = .returned v0_ ∧ Kd.R (Kd.int .i64) 3 w' w.heap.size (fun _ => True) v0_ (List.replicate n v) ∧ Below w.heap.size w w' := by
  obtain ⟨i0, hi0, hz0⟩ := Option.map_eq_some_iff.1 info3
  simp only [Prod.mk.injEq] at hz0
  obtain ⟨hz, hsz, hby⟩ := hz0
  have hmk : ∀ W : World, (Instr.makeSlice 72 (.int .i64 (n : Int)) (.int .i64 (n : Int))).run Tryz.prog W = .ok (.slice (some ⟨W.heap.size, 0, none⟩) n n) (W.alloc (.cells (List.replicate n (.int .i64 0)).toArray 3)) := by
    intro W
    have h := run_make (P := Tryz.prog) W 72 3 i0 (.int .i64 0) Tryz.underlying72 hi0 hz .i64 .i64 (n : Int) (n : Int) (by omega) (by omega) (by rw [hby]; omega) (by omega)
    rw [h, hsz]
    simp only [Int.toNat_natCast]
    rw [show (Value.int IntKind.i64 0).cells = #[Value.int .i64 0] from rfl, madeCells_one]
  have Hc := Aside0.mk hc
  clear hc hi0 hz hsz hby i0
  have p1 : decide ((n : Int) < 0) = false := decide_eq_false (by omega)
  go_enter Tryz.func70, Tryz.ntmps70
  go_wp2_with fail
  refine (Tryz.bits_Mul 1 n (by omega) (by omega) _).mono ?_
  rintro e w1 ⟨rfl, he⟩
  obtain rfl := he.symm
  clear he
  rw [show ((1 * n / 18446744073709551616 : Nat) : Int) = 0 from by omega, show ((1 * n % 18446744073709551616 : Nat) : Int) = (n : Int) from by omega]
  go_wp2_with ((with_reducible refine gate_builtin (b := .copy) (xs := #[.tmp 31, .tmp 32]) rfl ?_); refine wpList_copy_splice rfl _ _ 72 72 rfl 3 Tryz.underlying72 (by kernel_rfl) (some ⟨w.heap.size, 0, none⟩) (some ad) n n 1 c rfl rfl w.heap.size 0 (repRow v 0 n) 3 ?c0 (List.replicate (Nat.min 1 n) (.int .i64 v)) ?c1 ?c2 ?c3 ?c4 w.heap.size w ?c5 (Nat.le_refl _) ?_; (case c0 => exact blk_new _ _); (case c1 => exact List.length_replicate); (case c3 => rw [repRow_length v (Nat.zero_le n), List.length_replicate, Nat.zero_add]; exact Nat.min_le_right 1 n); (case c4 => intro u hu; rw [List.eq_of_mem_replicate hu]; rfl); (case c5 => exact below_alloc (Below.refl _ _) _); (case c2 => exact fun _ => ⟨rfl, ad, rfl, rep_cells (cell_alloc_of Hc.out _) (Nat.min_le_left 1 n)⟩); intro w1 HG1 hb1; have HB1 := Aside0.mk hb1; clear hb1)
  rw [splice_rep v (by show 0 + min 1 n ≤ n; omega), Nat.zero_add] at HG1
  go_loopw [8] (fun t8 W => ∃ m : Nat, t8 = .int .i64 m ∧ m ≤ n ∧ (0 < n → 0 < m) ∧ Aside0 (W.heap[w.heap.size]? = some (.cells (repRow v m n).toArray 3 (0, 0))) ∧ Aside0 (Below w.heap.size w W)) (fun t8 _ => n - (intOf t8).toNat)
  case atStart => exact ⟨Nat.min 1 n, rfl, Nat.min_le_right 1 n, fun h => Nat.lt_min.2 ⟨by omega, h⟩, ⟨HG1.out⟩, HB1⟩
  case round =>
    obtain ⟨m, rfl, hm, hm0, HG, HB⟩ := hrel
    clear HG1 HB1
    by_cases hlt : m < n
    · go_wp2
      have hne : ¬ n = m := by omega
      have hmin : Nat.min m (n - m) ≤ n - m := Nat.min_le_right _ _
      refine start_ (n := 10) (S := fun w' => True) (ds := []) #[false, false, false, false, false, false, false, false, false, false] (by kernel_rfl) rfl rfl trivial (fun hHeld => ?_)
      refine pure_ (i := 0) (N := some 38) (v := ?_) (a' := ?_) #[true, false, false, false, false, false, false, false, false, false] rfl rfl (by kernel_rfl) (fun _ _ _ h => h) (Or.inl ⟨by rfl, ?_⟩) ?_ ?_
      rotate_left
      · intro w'
        go_simp
        with_reducible rfl
      rotate_left
      · simp only [Act.put, List.setIfInBounds_toArray, List.set_cons_zero, List.set_cons_succ, i64_w, i32_w]
        rfl
      refine pure_ (i := 1) (N := some 39) (v := ?_) (a' := ?_) #[true, true, false, false, false, false, false, false, false, false] rfl rfl (by kernel_rfl) (fun _ _ _ h => h) (Or.inl ⟨by rfl, ?_⟩) ?_ ?_
      rotate_left
      · intro w'
        go_simp
        with_reducible rfl
      rotate_left
      · simp only [Act.put, List.setIfInBounds_toArray, List.set_cons_zero, List.set_cons_succ, i64_w, i32_w]
        rfl
      refine pure_ (i := 2) (N := some 40) (v := ?_) (a' := ?_) #[true, true, true, false, false, false, false, false, false, false] rfl rfl (by kernel_rfl) (fun _ _ _ h => h) (Or.inl ⟨by rfl, ?_⟩) ?_ ?_
      rotate_left
      · intro w'
        go_simp
        with_reducible rfl
      rotate_left
      · simp only [Act.put, List.setIfInBounds_toArray, List.set_cons_zero, List.set_cons_succ, i64_w, i32_w]
        rfl
      refine pure_ (i := 3) (N := some 41) (v := ?_) (a' := ?_) #[true, true, true, true, false, false, false, false, false, false] rfl rfl (by kernel_rfl) (fun _ _ _ h => h) (Or.inl ⟨by rfl, ?_⟩) ?_ ?_
      rotate_left
      · intro w'
        go_simp
        with_reducible rfl
      rotate_left
      · simp only [Act.put, List.setIfInBounds_toArray, List.set_cons_zero, List.set_cons_succ, i64_w, i32_w]
        rfl
      refine pure_ (i := 4) (N := some 42) (v := ?_) (a' := ?_) #[true, true, true, true, true, false, false, false, false, false] rfl rfl (by kernel_rfl) (fun _ _ _ h => h) (Or.inl ⟨by rfl, ?_⟩) ?_ ?_
      rotate_left
      · intro w'
        go_simp
        with_reducible rfl
      rotate_left
      · simp only [Act.put, List.setIfInBounds_toArray, List.set_cons_zero, List.set_cons_succ, i64_w, i32_w]
        rfl
      refine pure_ (i := 5) (N := some 43) (v := ?_) (a' := ?_) #[true, true, true, true, true, true, false, false, false, false] rfl rfl (by kernel_rfl) (fun _ _ _ h => h) (Or.inl ⟨by rfl, ?_⟩) ?_ ?_
      rotate_left
      · intro w'
        go_simp
        with_reducible rfl
      rotate_left
      · simp only [Act.put, List.setIfInBounds_toArray, List.set_cons_zero, List.set_cons_succ, i64_w, i32_w]
        rfl
      refine pure_ (i := 6) (N := some 44) (v := ?_) (a' := ?_) #[true, true, true, true, true, true, true, false, false, false] rfl rfl (by kernel_rfl) (fun _ _ _ h => h) (Or.inl ⟨by rfl, ?_⟩) ?_ ?_
      rotate_left
      · intro w'
        go_simp
        with_reducible rfl
      rotate_left
      · simp only [Act.put, List.setIfInBounds_toArray, List.set_cons_zero, List.set_cons_succ, i64_w, i32_w]
        rfl
      refine one_ (i := 7) (N := some 45) #[true, true, true, true, true, true, true, true, false, false] rfl rfl (by kernel_rfl) (by decide) (fun K hK => ?_)
      refine step_copy_splice rfl (.tmp 41) (.tmp 44) 72 72 rfl 3 Tryz.underlying72 (by kernel_rfl) (some ⟨w.heap.size, m, none⟩) (some ⟨w.heap.size, 0, none⟩) (n - m) (n - m) m n (by simp [Act.eval, Act.put]) (by simp [Act.eval, Act.put]) w.heap.size m (repRow v m n) 3 HG.out (List.replicate (Nat.min m (n - m)) (.int .i64 v)) (by simp) (fun _ => ⟨rfl, _, rfl, rep_cells_row HG.out (Nat.min_le_left _ _)⟩) (by rw [repRow_length v hm, List.length_replicate]; show m + min m (n - m) ≤ n; omega) (by intro u hu; rw [List.eq_of_mem_replicate hu]; rfl) w.heap.size w HB.out.drew (Nat.le_refl _) ?_
      intro w3 HG3 hb3
      refine hK.out _ _ trivial (fun hHeld => ?_)
      clear hK K
      refine norm_ (a' := ?_) ?_ ?_
      rotate_left
      · show Act.put _ (some 45) _ = _
        simp only [Act.put, List.setIfInBounds_toArray, List.set_cons_zero, List.set_cons_succ, i64_w, i32_w]
        rfl
      refine pure_ (i := 8) (N := some 46) (v := ?_) (a' := ?_) #[true, true, true, true, true, true, true, true, true, false] rfl rfl (by kernel_rfl) (fun _ _ _ h => h) (Or.inl ⟨by rfl, ?_⟩) ?_ ?_
      rotate_left
      · intro w'
        go_simp
        with_reducible rfl
      rotate_left
      · simp only [Act.put, List.setIfInBounds_toArray, List.set_cons_zero, List.set_cons_succ, i64_w, i32_w]
        rfl
      refine pure_ (i := 9) (N := some 8) (v := ?_) (a' := ?_) #[true, true, true, true, true, true, true, true, true, true] rfl rfl (by kernel_rfl) (fun _ _ _ h => h) (Or.inl ⟨by rfl, ?_⟩) ?_ ?_
      rotate_left
      · intro w'
        go_simp
        with_reducible rfl
      rotate_left
      · simp only [Act.put, List.setIfInBounds_toArray, List.set_cons_zero, List.set_cons_succ, i64_w, i32_w]
        rfl
      refine done_ (by kernel_rfl) ?_

      rw [splice_rep v (by show m + min m (n - m) ≤ n; omega)] at HG3
      have HB3 := Aside0.mk hb3
      have hw := rep_wrap hlt hn
      clear hb3 HB HG
      go_wp2
      go_roundw
      case measure =>
        rw [hw]
        exact rep_measure hlt (hm0 (by omega))
      case rel => exact ⟨m + Nat.min m (n - m), by rw [hw], by show m + min m (n - m) ≤ n; omega, by intro h; have := hm0 h; omega, ⟨HG3.out⟩, HB3⟩
    · obtain rfl : m = n := by omega
      go_wp2
      go_ret
      refine ⟨_, rfl, ?_, HB.out⟩
      have h := HG.out
      simp only [repRow, Nat.sub_self, List.replicate_zero, List.append_nil] at h
      rw [← List.map_replicate] at h
      have h2 := R_int_of_cells h (Nat.le_refl _) (by rw [List.length_replicate]; unfold maxLen; omega)
      rwa [List.length_replicate] at h2
end Go.Proofs.YtbbhdbeaikclcaaGreat.X
