/-
  intern.New, (*intern.Table).Id: by hand.
-/
import Derived.Test.YtnlekganlliikaaXInternMath
import Derived.Test.YtnlekganlliikaaXKit
import Derived.Maps.Own
import Derived.Maps.OwnSet
import Derived.Maps.OwnOps
import Derived.OwnWalk
import Derived.RangeFuncRecord
import Derived.Laws.LoneSync
namespace Go.Proofs.Ytnlekganlliikaa.X
open Go.RowKit Go.Proofs.YtnlekganlliikaaW.PrintWords Go.Proofs.YtnlekganlliikaaW.PrintLast Go.Proofs.YtnlekganlliikaaW.PrintMore
open Go.Maps
set_option linter.unusedVariables false
set_option linter.unusedSimpArgs false

/-- A text as a map's key. -/
def keyT (s : ByteArray) : Lit := .string s.data.toList
theorem keyT_inj {a b : ByteArray} (h : keyT a = keyT b) : a = b := by
  have h := Lit.string.inj h
  exact ByteArray.ext (Array.toList_inj.1 h)
/-- What a map tells of a table of texts. -/
def Tells (D : DataW Unit) (t : List ByteArray) : Prop :=
  IsMap D ∧ ∀ s : ByteArray, s.size ≤ maxLen → Maps.has D (keyT s) = decide (place s t < t.length) ∧ (place s t < t.length → D.atKey (keyT s) (.lit (.int .i64 0)) = .lit (.int .i64 (place s t)))
/-- A table of texts, at block g. -/
def TableIn (W : World) (B g : Nat) (t : List ByteArray) : Prop :=
  ∃ gm tv D, W.heap[g]? = some (.cells #[.map (some gm), tv, .int .i64 (t.length : Int)] 125 (0, 0)) ∧ B ≤ g ∧ B ≤ gm ∧ W.ownsMap Try.prog 9 (plainElem Try.prog 3) gm t.length D ∧ Aside0 (Tells D t) ∧
    Kd.R Kd.string 9 W B (fun _ => True) tv t
/-- All blocks of cells but those of tables, and of texts, stay. -/
def IdKeeps (W W' : World) : Prop := W.heap.size ≤ W'.heap.size ∧ ∀ (k : Nat) (cells : Array Value) (q : TypeId) (fr : Nat × Nat), W.heap[k]? = some (.cells cells q fr) → q ≠ 125 → q ≠ 9 → W'.heap[k]? = some (.cells cells q fr)
theorem IdKeeps.refl (W : World) : IdKeeps W W := ⟨Nat.le_refl _, fun _ _ _ _ h _ _ => h⟩
theorem IdKeeps.trans {W W1 W2 : World} (h : IdKeeps W W1) (k : IdKeeps W1 W2) : IdKeeps W W2 := ⟨Nat.le_trans h.1 k.1, fun i c q fr hi h1 h2 => k.2 i c q fr (h.2 i c q fr hi h1 h2) h1 h2⟩
theorem IdKeeps.below {W W1 : World} (h : Below W.heap.size W W1) : IdKeeps W W1 := ⟨h.size, fun i c q fr hi _ _ => (h.block i (Array.getElem?_eq_some_iff.1 hi).1).trans hi⟩
theorem wf_len {n : Nat} (h : n ≤ 140737488355328) : (Lit.int .i64 (n : Int)).wf = true := by
  have e1 : IntKind.i64.min = -9223372036854775808 := rfl
  have e2 : IntKind.i64.max = 9223372036854775807 := rfl
  simp [Lit.wf, go_sem]
  omega

theorem intern_New (w : World) : Calls Try.prog 54 #[] w fun e w' => ∃ g, e = .returned (.pointer (some ⟨g, 0, none⟩)) ∧ Aside0 (TableIn w' w.heap.size g []) ∧ Aside0 (Below w.heap.size w w') := by
  have hmm := @run_makeMap Try.prog
  go_enter Try.func54, Try.ntmps54
  go_wp2
  go_ret
  have hm := World.ownsMap_made (H := Unit) w Try.prog 9 (plainElem Try.prog 3)
  obtain ⟨es, cl, hb, hr⟩ := hm
  refine ⟨_, rfl, ⟨⟨w.heap.size, .slice none 0 0, .map [], ?_, ?_, Nat.le_refl _, ⟨es, cl, ?_, hr⟩, ⟨isMap_empty, fun s hs => ⟨rfl, fun h => by simp [place] at h⟩⟩, Kd.R_nil _ _ _ _ _⟩⟩, ⟨((Below.refl _ w).alloc (Nat.le_refl _) _).alloc (by simp) _⟩⟩
  · have := World.alloc_heap_new (w.alloc (.map #[] 0)) (.cells #[.map (some w.heap.size), .slice none 0 0, .int .i64 0] 125)
    simpa using this
  · simp
  · exact (Below.heap_alloc _ _ _ (by simp)).trans hb
theorem Tells.put {D : DataW Unit} {t : List ByteArray} {s : ByteArray} (h : Tells D t) (hs : ¬ place s t < t.length) (hk : WideAt.IsKeyLit (keyT s)) : Tells (D.put (keyT s) (.lit (.int .i64 (t.length : Int)))) (t ++ [s]) := by
  obtain ⟨hm, hf⟩ := h
  refine ⟨hm.put _ _, fun x hx => ?_⟩
  by_cases e : x = s
  · subst e
    have hp := place_new x [] hs
    rw [has_put_same hm hk, atKey_put_same hm hk, hp]
    simp
  · have hne : keyT x ≠ keyT s := fun h => e (keyT_inj h)
    obtain ⟨h1, h2⟩ := hf x hx
    rw [has_put_other hne, atKey_put_other hne, h1]
    by_cases hp : place x t < t.length
    · rw [place_append x [s] hp]
      refine ⟨?_, fun _ => h2 hp⟩
      simp [hp]; omega
    · have : ¬ x ∈ t ++ [s] := by
        rw [List.mem_append, place_mem]
        rintro (h | h)
        · exact hp h
        · exact e (List.mem_singleton.1 h)
      rw [place_mem] at this
      exact ⟨by rw [decide_eq_false hp, decide_eq_false this], fun h => absurd h this⟩

set_option maxRecDepth 100000 in
set_option maxHeartbeats 1600000 in
theorem atomic_Add (g : Nat) (n : Int) (w : World) (hc : w.cell? ⟨g, 2, none⟩ = some (.int .i64 n)) (hf : w.frozen? ⟨g, 2, none⟩ = false) (hn : 0 ≤ n) (hn2 : n < 1000000000000000) :
    Calls Try.prog 78 #[.pointer (some ⟨g, 2, none⟩), .int .i64 1] w fun e w' => e = .returned (.int .i64 (n + 1)) ∧ w' = w.setCell ⟨g, 2, none⟩ (.int .i64 (n + 1)) := by
  have hs : (Op.intArith .add .i64 n 1).run Try.prog w = .ok (.int .i64 (n + 1)) w := by
    have e : IntKind.i64.wrap (n + 1) = n + 1 := IntWalk.i64_in _ ⟨by omega, by omega⟩
    rw [← e]; rfl
  have hx := run_call_add (P := Try.prog) Try.func85 (by kernel_rfl) (by kernel_rfl) (by kernel_rfl) .i64 (by kernel_rfl) hc hf hs
  go_enter Try.func78, Try.ntmps78
  go_wp2
  go_ret
  exact ⟨rfl, rfl⟩

theorem Kd.R_map {W W1 : World} {b e : Nat} {α : Type} {d : Kd α} {ok : Nat → Prop} {v : Value} {xs : List α} (h : Kd.R d e W b ok v xs) (hb : ∀ (k : Nat) (cells : Array Value) (q : TypeId) (fr : Nat × Nat), W.heap[k]? = some (.cells cells q fr) → q ∈ e :: d.E → W1.heap[k]? = W.heap[k]?) : Kd.R d e W1 b ok v xs := by
  refine Kd.R_mono (Kd.R_move (Kd.R_bound h) (fun k hk => ?_)) (fun k hk => hk.1)
  obtain ⟨_, _, _, q, hq, cells, hc⟩ := hk
  exact hb k cells q _ hc hq

set_option maxRecDepth 100000 in
set_option maxHeartbeats 4000000 in
/-- A text's number; the table then. -/
theorem table_Id (g B : Nat) (t : List ByteArray) (s : ByteArray) (w : World) (h : TableIn w B g t) (hs : s.size ≤ maxLen) (ht : t.length ≤ 1000000000) (hB : B ≤ w.heap.size) :
    Calls Try.prog 55 #[.pointer (some ⟨g, 0, none⟩), .string s] w fun e w' => e = .returned (.int .i64 (place s t)) ∧ Aside0 (TableIn w' B g (addT t s)) ∧ Aside0 (Below B w w') ∧ Aside0 (IdKeeps w w') := by
  have H := Aside0.mk h
  obtain ⟨gm, tv, D, hb, hg, hgm, hown, hT, hR⟩ := h
  have hlt := blk_lt hb
  have hkey : keyOf Try.prog 9 (.string s) = some (keyT s)   := WideMaps.keyOf_string_mk Try.underlying9 hs
  have zE : ∀ w : World, (zeroValue 3).run Try.prog w = .ok (.int .i64 0) w := fun w => by kernel_rfl
  have c0 : w.cell? ⟨g, 0, none⟩ = some (.map (some gm)) := cell_blk hb rfl
  obtain ⟨hD, hTf⟩ := hT.out
  obtain ⟨h1, h2⟩ := hTf s hs
  have HD := Aside0.mk hD
  have HB := Aside0.mk hb
  have HOWN := Aside0.mk hown
  have HR := Aside0.mk hR
  clear hD hTf hb hown hR
  by_cases hp : place s t < t.length
  · have h2' := h2 hp
    rw [decide_eq_true hp] at h1
    have H1 := Aside0.mk h1
    have H2 := Aside0.mk h2'
    clear h1 h2 h2'
    go_enter Try.func55, Try.ntmps55
    go_wp2_with (at_lookup; refine wpList_lookup_own_ok_int _ rfl _ _ 120 rfl 9 3 .i64 (string_keyed Try.underlying9) Try.underlying120 Try.underlying3 (zE _) gm t.length D rfl HOWN.out _ _ rfl hkey ?_; intro c hat hwc; rw [H1.out]; rw [H2.out] at hat; obtain rfl : c = (place s t : Int) := by (injection hat with hat; injection hat with _ hat; exact hat.symm))
    go_ret
    rw [addT, if_pos hp]
    exact ⟨rfl, H, ⟨Below.refl _ _⟩, ⟨IdKeeps.refl _⟩⟩
  · rw [decide_eq_false hp] at h1
    have H1 := Aside0.mk h1
    clear h1 h2
    have hpl := place_not hp
    have z0 : D.atKey (keyT s) (.lit (.int .i64 0)) = .lit (.int .i64 0) := atKey_of_not_has H1.out _
    have Z0 := Aside0.mk z0
    clear z0
    have c2 : w.cell? ⟨g, 2, none⟩ = some (.int .i64 (t.length : Int)) := cell_blk HB.out rfl
    have f2 : w.frozen? ⟨g, 2, none⟩ = false := frozen_of_row _ _ _ _ _ HB.out
    rw [hpl]
    go_enter Try.func55, Try.ntmps55
    go_wp2_with (at_lookup; refine wpList_lookup_own_ok_int _ rfl _ _ 120 rfl 9 3 .i64 (string_keyed Try.underlying9) Try.underlying120 Try.underlying3 (zE _) gm t.length D rfl HOWN.out _ _ rfl hkey ?_; intro c hat hwc; rw [H1.out]; rw [Z0.out] at hat; obtain rfl : c = (0 : Int) := by (injection hat with hat; injection hat with _ hat; exact hat.symm))
    refine (atomic_Add g (t.length : Int) _ c2 f2 (by omega) (by omega)).mono ?_
    rintro e w1 ⟨rfl, rfl⟩
    have hne : gm ≠ g := by
      rintro rfl
      obtain ⟨es, cl, hm, _⟩ := HOWN.out
      rw [HB.out] at hm; cases hm
    obtain ⟨w1, hw1⟩ : ∃ w1, w.setCell ⟨g, 2, none⟩ (.int .i64 ((t.length : Int) + 1)) = w1 := ⟨_, rfl⟩
    have HW1 := Aside0.mk hw1
    rw [hw1]
    have hb1 : w1.heap[g]? = some (.cells #[.map (some gm), tv, .int .i64 ((t.length : Int) + 1)] 125 (0, 0)) := by rw [← hw1]; exact heap_set_same HB.out _
    have ho1 : w1.ownsMap Try.prog 9 (plainElem Try.prog 3) gm t.length D := by
      obtain ⟨es, cl, hm, r⟩ := HOWN.out
      exact ⟨es, cl, by rw [← hw1, heap_set_other hne]; exact hm, r⟩
    have hr1 : Kd.R Kd.string 9 w1 B (fun _ => True) tv t := by rw [← hw1]; exact Kd.R_set HR.out HB.out (by decide) _ _
    have hbl1 : Below B w w1 := by rw [← hw1]; exact (Below.refl _ _).setCell (p := ⟨g, 2, none⟩) hg _
    have hk1 : IdKeeps w w1 := ⟨by rw [← hw1]; simp [World.setCell], fun k cells q fr hk h1 h2 => by
      rw [← hw1, heap_set_other]; · exact hk
      · rintro rfl; rw [HB.out] at hk; cases hk; exact h1 rfl⟩
    clear hw1
    have c10 : w1.cell? ⟨g, 0, none⟩ = some (.map (some gm)) := cell_blk hb1 rfl
    have HB1 := Aside0.mk hb1
    have HO1 := Aside0.mk ho1
    have HR1 := Aside0.mk hr1
    have HL1 := Aside0.mk hbl1
    have HK1 := Aside0.mk hk1
    clear hb1 ho1 hr1 hbl1 hk1
    have e1 : wrap64 ((t.length : Int) + 1 - 1) = (t.length : Int) := by unfold wrap64; omega
    have e2 : (t.length : Int) + 1 - 1 = (t.length : Int) := by omega
    clear c0 c2 f2
    go_wp2_with (first | (at_mapUpdate; (refine wpList_mapUpdate_own _ rfl _ _ _ 120 rfl 9 3 (string_keyed Try.underlying9) Try.underlying120 _ gm t.length D rfl HO1.out (by unfold maxLen; omega) _ _ _ rfl rfl hkey (.lit (.int .i64 (t.length : Int))) [] (plainElem_int Try.underlying3 (wf_len (by omega))) ?_; intro w2 hown2 hgrow2; have hb2 := (hgrow2.block g (blk_lt HB1.out) (fun e => hne (Option.some.inj e).symm)).trans HB1.out; have hr2 : Kd.R Kd.string 9 w2 B (fun _ => True) tv t := Kd.R_map HR1.out (fun k cells q fr hk _ => hgrow2.block k (Array.getElem?_eq_some_iff.1 hk).1 (fun e => by obtain ⟨es, cl, hm, _⟩ := HO1.out; rw [Option.some.inj e, hm] at hk; cases hk)); have c21 : w2.cell? ⟨g, 1, none⟩ = some tv := cell_blk hb2 rfl; obtain ⟨Av, cv, hev⟩ := Kd.R_slice hr2; subst hev; have HB2 := Aside0.mk hb2; have HR2 := Aside0.mk hr2; have HO2 := Aside0.mk hown2; have HG2 := Aside0.mk hgrow2; clear hb2 hr2 hown2 hgrow2)) | (at_builtin; (refine Kd.R_append Kd.string (w0 := w2) B rfl (.tmp 35) (.tmp 37) 34 9 (.string ByteArray.empty) 16 rfl Try.underlying34 info9 rfl (by decide) (by decide) _ t s [.string s] (fun _ => True) (fun _ => False) rfl rfl rfl (fun _ h => h.elim) (fun _ _ => trivial) HR2.out (Below.refl _ _) (Nat.le_trans hB (Nat.le_trans HK1.out.1 HG2.out.size)) (by omega) ?_; intro v3 w3 hr3 hbl3 hg3 hat3; have hgn : some g ≠ (Value.slice Av t.length cv).ownBlock := Kd.R_ne HR2.out HB2.out (by decide); have hb3 := (hg3.block g (blk_lt HB2.out) hgn).trans HB2.out; obtain ⟨A3, c3, hev3⟩ := Kd.R_slice hr3; subst hev3; have c31 := cell_blk (j := 1) hb3 rfl; have f31 : w3.frozen? ⟨g, 1, none⟩ = false := frozen_of_row _ _ _ _ _ hb3; have HR3 := Aside0.mk hr3; have HB3 := Aside0.mk hb3; have HL3 := Aside0.mk hbl3; have HG3 : Aside0 (w2.grownBy w3 (Value.slice Av t.length cv).ownBlock) := Aside0.mk hg3; clear hr3 hb3 hbl3 hg3 hat3)))
    go_ret
    have hadd : addT t s = t ++ [s] := by rw [addT, if_neg hp]
    have hlen : (t ++ [s]).length = t.length + 1 := by simp
    rw [hadd]
    have hgm2 : (Value.slice Av t.length cv).ownBlock ≠ some gm := by
      intro e
      obtain ⟨es, cl, hm, _⟩ := HO2.out
      obtain ⟨cells, hc⟩ := Kd.R_typed HR2.out gm e
      rw [hm] at hc; cases hc
    have hB2 : B ≤ w2.heap.size := Nat.le_trans hB (Nat.le_trans HK1.out.1 HG2.out.size)
    have HR3' := HR3.out
    rw [hlen] at HR3'
    refine ⟨rfl, ⟨⟨gm, .slice A3 (t.length + 1) c3, D.put (keyT s) (.lit (.int .i64 (t.length : Int))), ?_, hg, hgm, ?_, ⟨Tells.put hT.out hp trivial⟩, ?_⟩⟩, ⟨?_⟩, ⟨?_⟩⟩
    · rw [heap_set_same HB3.out, hlen]; rfl
    · obtain ⟨es, cl, hm, r⟩ := HO2.out
      refine ⟨es, cl, ?_, by rw [hlen]; exact r⟩
      rw [heap_set_other hne, HG3.out.block gm (by rcases Nat.lt_or_ge gm w2.heap.size with h | h
                                                   · exact h
                                                   · rw [Array.getElem?_eq_none h] at hm; cases hm) (fun e => hgm2 e.symm)]
      exact hm
    · exact Kd.R_set HR3' HB3.out (by decide) _ _
    · exact (((HL1.out.grown HG2.out (Nat.le_trans hB HK1.out.1) (fun j hj => by rw [← Option.some.inj hj]; exact hgm)).trans HL3.out).setCell (p := ⟨g, 1, none⟩) hg _)
    · refine ⟨?_, fun k cells q fr hk h1 h2 => ?_⟩
      · have a1 := HK1.out.1; have a2 := HG2.out.size; have a3 := HG3.out.size
        simp [World.setCell]; omega
      · have k1 := HK1.out.2 k cells q fr hk h1 h2
        have k2 := (HG2.out.block k (Array.getElem?_eq_some_iff.1 k1).1 (fun e => by
          obtain ⟨es, cl, hm, _⟩ := HO1.out
          rw [Option.some.inj e, hm] at k1; cases k1)).trans k1
        have k3 := (HG3.out.block k (Array.getElem?_eq_some_iff.1 k2).1 (fun e => by
          obtain ⟨cells', hc⟩ := Kd.R_typed HR2.out k e.symm
          rw [k2] at hc; cases hc; exact h2 rfl)).trans k2
        rw [heap_set_other]
        · exact k3
        · rintro rfl
          rw [HB3.out] at k3; cases k3; exact h1 rfl
end Go.Proofs.Ytnlekganlliikaa.X
