/-
  intern.All: by hand.
-/
import Derived.Test.YtnlekganlliikaaXIntern1
namespace Go.Proofs.Ytnlekganlliikaa.X
open Go.RowKit Go.Proofs.YtnlekganlliikaaW.PrintWords Go.Proofs.YtnlekganlliikaaW.PrintLast Go.Proofs.YtnlekganlliikaaW.PrintMore
open Go.Maps
set_option linter.unusedVariables false
set_option linter.unusedSimpArgs false

theorem TableIn.same {W W' : World} {B g : Nat} {t : List ByteArray} (h : TableIn W B g t) (hh : W'.heap = W.heap) : TableIn W' B g t := by
  obtain ⟨gm, tv, D, h1, h2, h3, h4, h5, h6⟩ := h
  obtain ⟨es, cl, h7, h8⟩ := h4
  exact ⟨gm, tv, D, by rw [hh]; exact h1, h2, h3, ⟨es, cl, by rw [hh]; exact h7, h8⟩, h5, Kd.R_move h6 (fun k _ => by rw [hh])⟩
theorem TableIn.step {W W' : World} {B g : Nat} {t : List ByteArray} (h : TableIn W B g t) (hh : ∀ k, k < W.heap.size → (∀ cells q fr, W.heap[k]? = some (.cells cells q fr) → q = 125 ∨ q = 9) → W'.heap[k]? = W.heap[k]?) : TableIn W' B g t := by
  obtain ⟨gm, tv, D, h1, h2, h3, h4, h5, h6⟩ := h
  obtain ⟨es, cl, h7, h8⟩ := h4
  have l7 : gm < W.heap.size := (Array.getElem?_eq_some_iff.1 h7).1
  refine ⟨gm, tv, D, (hh g (blk_lt h1) (fun c q fr e => by rw [h1] at e; cases e; exact .inl rfl)).trans h1, h2, h3, ⟨es, cl, (hh gm l7 (fun c q fr e => by rw [h7] at e; cases e)).trans h7, h8⟩, h5, Kd.R_map h6 (fun k c q fr e hq => hh k (Array.getElem?_eq_some_iff.1 e).1 (fun c' q' fr' e' => ?_))⟩
  rw [e] at e'
  cases e'
  exact .inr (by simpa [Kd.string, Kd.scalar] using hq)

abbrev KI : Kd (List Int) := Kd.slice 3 (Kd.int .i64)
/-- The rows behind k files, and j texts of the next. -/
def rowsAt (files : List (List ByteArray)) (k j : Nat) : List (List Int) :=
  idsMany [] (files.take k) ++ (idsOne (tabOf [] (files.take k)) ((files.getD k []).take j)).2 :: List.replicate (files.length - k - 1) []
theorem rowsAt_start (files : List (List ByteArray)) (k : Nat) (h : k < files.length) : idsMany [] (files.take k) ++ List.replicate (files.length - k) [] = rowsAt files k 0 := by
  have : files.length - k = (files.length - k - 1) + 1 := by omega
  rw [rowsAt, this, List.replicate_succ]
  simp [idsOne]
theorem rowsAt_end (files : List (List ByteArray)) (k : Nat) (h : k < files.length) : rowsAt files k (files.getD k []).length = idsMany [] (files.take (k + 1)) ++ List.replicate (files.length - (k + 1)) [] := by
  have h2 : files.take (k + 1) = files.take k ++ [files.getD k []] := by
    rw [← List.take_append_getElem h]; simp [h]
  rw [rowsAt, List.take_length, h2, idsMany_snoc, show files.length - k - 1 = files.length - (k + 1) by omega]
  simp
theorem rowsAt_len (files : List (List ByteArray)) (k j : Nat) (h : k < files.length) : (rowsAt files k j).length = files.length := by
  simp [rowsAt, idsMany_length]; omega
theorem rowsAt_get (files : List (List ByteArray)) (k j : Nat) (h : k < files.length) : (rowsAt files k j).getD k [] = (idsOne (tabOf [] (files.take k)) ((files.getD k []).take j)).2 := by
  have hl : (idsMany [] (files.take k)).length = k := by rw [idsMany_length, List.length_take]; omega
  rw [rowsAt, List.getD_eq_getElem?_getD, List.getElem?_append_right (by omega), hl]
  simp
theorem rowsAt_set (files : List (List ByteArray)) (k j : Nat) (h : k < files.length) (hj : j < (files.getD k []).length) : (rowsAt files k j).set k ((idsOne (tabOf [] (files.take k)) ((files.getD k []).take j)).2 ++ [(place (files.getD k [])[j] (idsOne (tabOf [] (files.take k)) ((files.getD k []).take j)).1 : Int)]) = rowsAt files k (j + 1) := by
  have hl : (idsMany [] (files.take k)).length = k := by rw [idsMany_length, List.length_take]; omega
  rw [rowsAt, List.set_append_right _ _ (by omega), hl, Nat.sub_self, List.set_cons_zero, rowsAt, ← List.take_append_getElem hj, idsOne_snoc]
def tabAt (files : List (List ByteArray)) (k j : Nat) : List ByteArray := (idsOne (tabOf [] (files.take k)) ((files.getD k []).take j)).1
theorem tabAt_step (files : List (List ByteArray)) (k j : Nat) (hj : j < (files.getD k []).length) : addT (tabAt files k j) (files.getD k [])[j] = tabAt files k (j + 1) := by
  rw [tabAt, tabAt, ← List.take_append_getElem hj, idsOne_snoc]
theorem tabAt_end (files : List (List ByteArray)) (k : Nat) (h : k < files.length) : tabAt files k (files.getD k []).length = tabOf [] (files.take (k + 1)) := by
  have h2 : files.take (k + 1) = files.take k ++ [files.getD k []] := by
    rw [← List.take_append_getElem h]; simp [h]
  rw [tabAt, List.take_length, h2, tabOf_snoc]
theorem tabAt_start (files : List (List ByteArray)) (k : Nat) : tabAt files k 0 = tabOf [] (files.take k) := by
  simp [tabAt, idsOne]
/-- How many texts. -/
def total (files : List (List ByteArray)) : Nat := (files.map List.length).sum
theorem tabOf_le : ∀ (t : List ByteArray) (ls : List (List ByteArray)), (tabOf t ls).length ≤ t.length + total ls
  | t, [] => by simp [tabOf, total]
  | t, l :: ls => by
    have h1 := tabOf_le (idsOne t l).1 ls
    have h2 := idsOne_table_le t l
    simp only [tabOf, total, List.map_cons, List.sum_cons] at h1 ⊢
    omega
theorem total_take (files : List (List ByteArray)) (k : Nat) (h : k < files.length) : total (files.take k) + (files.getD k []).length ≤ total files := by
  have h1 : files = files.take k ++ files.drop k := (List.take_append_drop k files).symm
  have h2 : files.drop k = files.getD k [] :: files.drop (k + 1) := by rw [List.drop_eq_getElem_cons h]; simp [h]
  have : total files = total (files.take k) + total (files.drop k) := by
    unfold total
    rw [← List.sum_append, ← List.map_append, List.take_append_drop]
  rw [this, h2]
  simp [total]
theorem tabAt_le (files : List (List ByteArray)) (k j : Nat) (h : k < files.length) : (tabAt files k j).length ≤ total files := by
  have h1 := idsOne_table_le (tabOf [] (files.take k)) ((files.getD k []).take j)
  have h2 := tabOf_le [] (files.take k)
  have h3 := total_take files k h
  rw [List.length_take] at h1
  simp only [List.length_nil] at h2
  rw [tabAt]; omega

def intern_All.f (files : List (List ByteArray)) : Option (List (List Int)) := if files.length ≤ 1000 ∧ total files ≤ 1000000 ∧ ∀ l ∈ files, ∀ s ∈ l, s.size ≤ maxLen then some (idsAll files) else none

theorem S_types2 {W : World} {B : Nat} {v : Value} {rows : List (List Int)} (h : Kd.S KI 49 W B (fun _ => True) v rows) : Kd.S KI 49 W B (fun k => ∃ q, (q = 49 ∨ q = 3) ∧ k < W.heap.size ∧ ∃ cells, W.heap[k]? = some (.cells cells q (0, 0))) v rows :=
  Kd.S_mono (Kd.S_bound h) (fun k hk => by
    obtain ⟨_, _, hlt, q, hq, hc⟩ := hk
    refine ⟨q, ?_, hlt, hc⟩
    simpa [KI, Kd.slice, Kd.int, Kd.scalar] using hq)
theorem S_keeps {W W' : World} {B : Nat} {v : Value} {rows : List (List Int)} (h : Kd.S KI 49 W B (fun _ => True) v rows) (hk : IdKeeps W W') : Kd.S KI 49 W' B (fun _ => True) v rows :=
  Kd.S_mono (Kd.S_step (S_types2 h) (fun k hk' _ => by
    obtain ⟨q, hq, _, cells, hc⟩ := hk'
    rw [hc]
    exact hk.2 k cells q _ hc (by rcases hq with rfl | rfl <;> decide) (by rcases hq with rfl | rfl <;> decide))) (fun _ _ => trivial)

theorem idstep {W W' : World} {k : Nat} (hk : IdKeeps W W') (h : ∃ q, (q = 49 ∨ q = 3) ∧ k < W.heap.size ∧ ∃ cells, W.heap[k]? = some (.cells cells q (0, 0))) : W'.heap[k]? = W.heap[k]? := by
  obtain ⟨q, hq, _, cells, hc⟩ := h
  rw [hc]
  exact hk.2 k cells q _ hc (by rcases hq with rfl | rfl <;> decide) (by rcases hq with rfl | rfl <;> decide)
/-- A row appended to, stored back. -/
theorem rows_put {W W3 : World} {B go n c2 k : Nat} {v1 v3 : Value} {rows : List (List Int)} {row row' : List Int} {oki : Nat → Prop}
    (hH : Kd.H KI 49 W B (fun _ => True) (.slice (some ⟨go, 0, none⟩) n c2) rows (k : Int) (fun q => oki q ∨ True ∧ W.heap.size ≤ q) [v1])
    (hv : Kd.R (Kd.int .i64) 3 W B (fun q => oki q ∨ W.heap.size ≤ q) v1 row) (hg : W.grownBy W3 v1.ownBlock)
    (hr : Kd.R (Kd.int .i64) 3 W3 B (fun q => oki q ∨ W.heap.size ≤ q) v3 row') (ho : ∀ q, oki q → q ≠ go) (hgo : go < W.heap.size) (hn : rows.length = n) (hk : k < n) :
    Kd.S KI 49 (W3.setCell ⟨go, k, none⟩ v3) B (fun _ => True) (.slice (some ⟨go, 0, none⟩) n c2) (rows.set k row') := by
  have h3 := Kd.H_grown hH hg (fun q hq => by
    rcases hv.1 q hq with h | h
    · exact .inl h
    · exact .inr ⟨trivial, h⟩)
  have hone : ∀ q ∈ [v3], q.oneCell' = true := fun q hq => by rw [List.mem_singleton.1 hq]; exact (Kd.R_val hr).2
  have h4 := (Kd.H_seg h3 (by omega) (by omega) (seg := [v3]) (j := 0) (by simp [KI, Kd.slice]) hone).1
  have e : (k : Int).toNat * KI.sz + 0 = k := by simp [KI, Kd.slice]
  rw [e] at h4
  have h5 := Kd.H_back (x' := row') (okp := fun q => oki q ∨ W.heap.size ≤ q) h4 ⟨v3, rfl, Kd.R_far (p := ⟨go, k, none⟩) hr (fun q hq => by
    rcases hq with h | h
    · exact ho q h
    · show q ≠ go
      omega) _⟩ (fun q hq => hq.imp id (fun h => ⟨trivial, h⟩))
  rw [Int.toNat_natCast] at h5
  exact h5
theorem table_put {W W3 : World} {B g go k : Nat} {t : List ByteArray} {v1 v3 : Value} {row : List Int} {okx : Nat → Prop} {gc : Array Value} (h : TableIn W B g t) (hv : Kd.R (Kd.int .i64) 3 W B okx v1 row) (hg : W.grownBy W3 v1.ownBlock)
    (hb : W3.heap[go]? = some (.cells gc 49 (0, 0))) : TableIn (W3.setCell ⟨go, k, none⟩ v3) B g t := by
  refine (h.step (W' := W3) (fun q hq ht => hg.block q hq (fun e => ?_))).step (fun q hq ht => ?_)
  · obtain ⟨cells, hc⟩ := Kd.R_typed hv q e.symm
    rcases ht _ _ _ hc with h | h <;> exact absurd h (by decide)
  · refine heap_set_other (fun e => ?_) _
    subst e
    rcases ht _ _ _ hb with h | h <;> exact absurd h (by decide)

set_option maxRecDepth 100000 in
set_option maxHeartbeats 8000000 in
theorem intern_All.calls (A0 : Option Addr) (c0 : Nat) (l0 : List (List ByteArray)) (r : List (List Int)) (w : World) (hr0 : Kd.C (Kd.slice 9 Kd.string) w A0 l0.length l0) (hc0 : l0.length ≤ c0) (h : intern_All.f l0 = some r) :
    Calls Try.prog 30 #[.slice A0 l0.length c0] w fun e w' => ∃ v0_ : Value, e = .returned v0_ ∧ Kd.S KI 49 w' w.heap.size (fun _ => True) v0_ r ∧ Below w.heap.size w w' := by
  have HR0 := Aside0.mk hr0
  have HC0 := Aside0.mk hc0
  clear hr0 hc0
  unfold intern_All.f at h
  split at h
  · rename_i hf
    obtain ⟨hfl, htot, hsz⟩ := hf
    have h := Option.some.inj h
    subst h
    have HSZ := Aside0.mk hsz
    clear hsz
    obtain ⟨B, hBe⟩ : ∃ B, w.heap.size = B := ⟨_, rfl⟩
    have hBw : B ≤ w.heap.size := Nat.le_of_eq hBe.symm
    have HBe := Aside0.mk hBe
    clear hBe
    go_enter Try.func30, Try.ntmps30
    go_wp2_with fail
    refine (intern_New _).mono ?_
    rintro e w1 ⟨g, rfl, HT1, HB1⟩
    rw [HBe.out] at HT1 HB1
    go_wp2_with ((with_reducible refine gate_dst (N := 12) rfl ?_); go_loud (refine Kd.S_make KI (w0 := w) B 49 rfl (N := 12) rfl 44 _ _ rfl (l0.length : Int) rfl rfl Try.underlying44 (.slice none 0 0) 24 info49 rfl (by decide) (by omega) [] (ok := fun _ => True) (okp := fun _ => True) ⟨_, rfl, Kd.R_nil _ _ _ _ _⟩ (fun _ hk => hk) trivial (by omega) (by omega) HB1.out (Nat.le_trans hBw HB1.out.size) ?_; intro v2 w2 hs2 hb2 hg2 hnew2; have HS2 := Aside0.mk hs2; have HB2 := Aside0.mk hb2; have HT2 : Aside0 (TableIn w2 B g []) := ⟨HT1.out.step (fun k hk _ => hg2.block k hk (by simp))⟩; have HZ2 := Aside0.mk hg2.size; clear hs2 hb2 hg2 hnew2))
    have hrep : ∀ n : Nat, ((n : Int)).toNat = n := fun n => Int.toNat_natCast n
    rw [hrep] at HS2
    obtain ⟨A2, c2, rfl⟩ := Kd.S_slice HS2.out
    have HN : Aside0 ((List.replicate l0.length ([] : List Int)).length = l0.length) := ⟨by simp⟩
    rw [HN.out] at HS2 ⊢
    clear hrep
    go_loopw [15] (fun i wr => ∃ k : Nat, k ≤ l0.length ∧ i = .int .i64 k ∧ Aside0 (Kd.S KI 49 wr B (fun _ => True) (.slice A2 l0.length c2) (idsMany [] (l0.take k) ++ List.replicate (l0.length - k) [])) ∧ Aside0 (TableIn wr B g (tabOf [] (l0.take k))) ∧ Aside0 (Below B w wr)) (fun i _ => l0.length - (intOf i).toNat)
    case atStart => exact ⟨0, Nat.zero_le _, rfl, by simpa [idsMany] using HS2, HT2, HB2⟩
    case round =>
      obtain ⟨k, hk, rfl, HS, HT, HB⟩ := hrel
      by_cases hlt : k < l0.length
      · obtain ⟨ad, A5, c5, rfl, hrow, hc5, hC5⟩ := at_slice HR0.out k hlt
        replace hrow := (HB.out.cell (by rw [← HBe.out]; exact World.block_lt_of_cell? w _ hrow)).trans hrow
        obtain ⟨go, rfl⟩ : ∃ go, A2 = some ⟨go, 0, none⟩ := by
          obtain ⟨go, cap, e, _⟩ := Kd.S_form HS.out (by simp [idsMany_length]; omega)
          injection e with e1 e2 e3
          exact ⟨go, e1⟩
        obtain ⟨l, hl⟩ : ∃ l, l0.getD k [] = l := ⟨_, rfl⟩
        have HL := Aside0.mk hl
        rw [hl] at hrow hc5 hC5
        have HC5 := Aside0.mk hC5
        have Hc5 := Aside0.mk hc5
        have hlm : l ∈ l0 := by rw [← hl, getD_get hlt]; exact List.getElem_mem hlt
        have HLM := Aside0.mk hlm
        have htk := total_take l0 k hlt
        rw [hl] at htk
        clear hC5 hc5 hl hlm
        have HW0 := Aside0.mk (HB.out)
        go_wp2_with fail
        go_loopw [22] (fun i wj => ∃ j : Nat, j ≤ l.length ∧ i = .int .i64 j ∧ Aside0 (Kd.S KI 49 wj B (fun _ => True) (.slice (some ⟨go, 0, none⟩) l0.length c2) (rowsAt l0 k j)) ∧ Aside0 (TableIn wj B g (tabAt l0 k j)) ∧ Aside0 (Below B w wj)) (fun i _ => l.length - (intOf i).toNat)
        case atStart => exact ⟨0, Nat.zero_le _, rfl, by rw [← rowsAt_start l0 k hlt]; exact HS, by rw [tabAt_start]; exact HT, HB⟩
        case round =>
          obtain ⟨j, hj, rfl, HSj, HTj, HBj⟩ := hrel
          clear HS HT HB
          by_cases hjl : j < l.length
          · obtain ⟨ads, rfl, hstr⟩ := at_str HC5.out j hjl
            replace hstr := (HBj.out.cell (by rw [← HBe.out]; exact World.block_lt_of_cell? w _ hstr)).trans hstr
            have hsm : l.getD j ByteArray.empty ∈ l := by rw [getD_get hjl]; exact List.getElem_mem hjl
            have hrl := rowsAt_len l0 k j hlt
            have hrs : (rowsAt l0 k j).set k ((rowsAt l0 k j).getD k [] ++ [(place (l.getD j ByteArray.empty) (tabAt l0 k j) : Int)]) = rowsAt l0 k (j + 1) := by
              rw [rowsAt_get l0 k j hlt, ← rowsAt_set l0 k j hlt (by rw [HL.out]; exact hjl)]
              congr 3
              simp only [tabAt, HL.out, getD_get hjl]
            have hts : addT (tabAt l0 k j) (l.getD j ByteArray.empty) = tabAt l0 k (j + 1) := by
              rw [← tabAt_step l0 k j (by rw [HL.out]; exact hjl)]
              simp only [HL.out, getD_get hjl]
            have hrowlen : ((rowsAt l0 k j).getD k []).length ≤ 1000000 := by
              rw [rowsAt_get l0 k j hlt, idsOne_length, List.length_take]
              omega
            obtain ⟨s, hse⟩ : ∃ s, l.getD j ByteArray.empty = s := ⟨_, rfl⟩
            rw [hse] at hstr hsm hrs hts
            have hsz : s.size ≤ maxLen := HSZ.out l HLM.out s hsm
            obtain ⟨row, hrow2⟩ : ∃ row, (rowsAt l0 k j).getD k [] = row := ⟨_, rfl⟩
            have HROW := Aside0.mk hrow2
            rw [hrow2] at hrs hrowlen
            have HRS := Aside0.mk hrs
            have HTS := Aside0.mk hts
            have htl := tabAt_le l0 k j hlt
            clear hrs hts hsm hse hrow2
            obtain ⟨oki, c, hcl, hM, hcc, hfz, hoki, hH⟩ := Kd.S_elem (S_types2 HSj.out) [] (k : Int) (by omega) (by omega)
            rw [Int.toNat_natCast, HROW.out] at hM
            obtain ⟨v1, rfl, hv1⟩ := hM
            obtain ⟨A1, c1, rfl⟩ := Kd.R_slice hv1
            have hcell : wr.cell? ⟨go, k, none⟩ = some (.slice A1 row.length c1) := by
              have := hcc 0 _ rfl
              simpa [KI, Kd.slice] using this
            obtain ⟨gcells, hgb⟩ := Kd.S_typed HSj.out go rfl
            have hgo := blk_lt hgb
            have hkg : (k : Int).toNat = k := Int.toNat_natCast k
            have HH := Aside0.mk hH
            have HV1 := Aside0.mk hv1
            have HOKI := Aside0.mk hoki
            have HGB := Aside0.mk hgb
            clear hcc hfz hoki hv1 hcl hH hgb hkg
            have hBj : B ≤ wr.heap.size := Nat.le_trans hBw HBj.out.size
            have hkI : ((k : Int) < (l0.length : Int)) = True := eq_true (by omega)
            have hkI0 : (0 ≤ (k : Int)) = True := eq_true (by omega)
            go_wp2
            refine start_ (n := 13) (S := fun w' => w'.cell? ⟨go, k, none⟩ = some (.slice A1 row.length c1)) (ds := [10, 12]) #[false, false, false, false, false, false, false, false, false, false, false, false, false] (by kernel_rfl) rfl rfl (hcell) (fun hHeld => ?_)
            refine pure_ (i := 0) (N := some 26) (v := ?_) (a' := ?_) #[true, false, false, false, false, false, false, false, false, false, false, false, false] rfl rfl (by kernel_rfl) (fun _ _ _ h => h) (Or.inl ⟨by rfl, ?_⟩) ?_ ?_
            rotate_left
            · intro w'
              go_simp
              with_reducible rfl
            rotate_left
            · simp only [Act.put, List.setIfInBounds_toArray, List.set_cons_zero, List.set_cons_succ, i64_w, i32_w]
              rfl
            refine pure_ (i := 1) (N := some 27) (v := ?_) (a' := ?_) #[true, true, false, false, false, false, false, false, false, false, false, false, false] rfl rfl (by kernel_rfl) (fun _ _ _ h => h) (Or.inl ⟨by rfl, ?_⟩) ?_ ?_
            rotate_left
            · intro w'
              go_simp
              with_reducible rfl
            rotate_left
            · simp only [Act.put, List.setIfInBounds_toArray, List.set_cons_zero, List.set_cons_succ, i64_w, i32_w]
              rfl
            refine pure_ (i := 2) (N := some 28) (v := ?_) (a' := ?_) #[true, true, true, false, false, false, false, false, false, false, false, false, false] rfl rfl (by kernel_rfl) (fun _ _ _ h => h) (Or.inl ⟨by rfl, ?_⟩) ?_ ?_
            rotate_left
            · intro w'
              go_simp
              with_reducible rfl
            rotate_left
            · simp only [Act.put, List.setIfInBounds_toArray, List.set_cons_zero, List.set_cons_succ, i64_w, i32_w]
              rfl
            refine pure_ (i := 3) (N := some 29) (v := ?_) (a' := ?_) #[true, true, true, true, false, false, false, false, false, false, false, false, false] rfl rfl (by kernel_rfl) (fun _ _ _ h => h) (Or.inl ⟨by rfl, ?_⟩) ?_ ?_
            rotate_left
            · intro w'
              go_simp
              with_reducible rfl
            rotate_left
            · simp only [Act.put, List.setIfInBounds_toArray, List.set_cons_zero, List.set_cons_succ, i64_w, i32_w]
              rfl
            refine pure_ (i := 4) (N := some 30) (v := ?_) (a' := ?_) #[true, true, true, true, true, false, false, false, false, false, false, false, false] rfl rfl (by kernel_rfl) (fun _ _ _ h => h) (Or.inl ⟨by rfl, ?_⟩) ?_ ?_
            rotate_left
            · intro w'
              go_simp
              with_reducible rfl
            rotate_left
            · simp only [Act.put, List.setIfInBounds_toArray, List.set_cons_zero, List.set_cons_succ, i64_w, i32_w]
              rfl
            refine pure_ (i := 6) (N := some 32) (v := ?_) (a' := ?_) #[true, true, true, true, true, false, true, false, false, false, false, false, false] rfl rfl (by kernel_rfl) (fun _ _ _ h => h) (Or.inl ⟨by rfl, ?_⟩) ?_ ?_
            rotate_left
            · intro w'
              go_simp
              with_reducible rfl
            rotate_left
            · simp only [Act.put, List.setIfInBounds_toArray, List.set_cons_zero, List.set_cons_succ, i64_w, i32_w]
              rfl
            refine pure_ (i := 7) (N := some 33) (v := ?_) (a' := ?_) #[true, true, true, true, true, false, true, true, false, false, false, false, false] rfl rfl (by kernel_rfl) (fun _ _ _ h => h) (Or.inl ⟨by rfl, ?_⟩) ?_ ?_
            rotate_left
            · intro w'
              go_simp
              with_reducible rfl
            rotate_left
            · simp only [Act.put, List.setIfInBounds_toArray, List.set_cons_zero, List.set_cons_succ, i64_w, i32_w]
              rfl
            refine take_ (i := 5) (N := some 31) (v := ?_) (a' := ?_) #[true, true, true, true, true, true, true, true, false, false, false, false, false] rfl rfl (by kernel_rfl) (fun _ _ _ h => h) (Or.inl ⟨by rfl, ?_⟩) hHeld ?_ ?_
            rotate_left
            · intro w' s0
              go_simp
              with_reducible rfl
            rotate_left
            · simp only [Act.put, List.setIfInBounds_toArray, List.set_cons_zero, List.set_cons_succ, i64_w, i32_w]
              rfl
            refine one_ (i := 8) (N := some 34) #[true, true, true, true, true, true, true, true, true, false, false, false, false] rfl rfl (by kernel_rfl) (by decide) (fun K hK => ?_)
            refine goes_ Try.func55 (by kernel_rfl) rfl #[.pointer (some ⟨g, 0, none⟩), .string s] (by rfl) rfl rfl (by simp only [List.map_toArray, List.map_cons, List.map_nil]; rfl) ?_
            with_reducible refine (table_Id g B (tabAt l0 k j) s wr.drew (HTj.out.same rfl) hsz (by omega) (by simpa using hBj)).mono ?_
            rintro e w2 ⟨rfl, HT2, HB2, HK2⟩
            refine ⟨_, rfl, ?_⟩
            have hg2 : w2.heap[go]? = some (.cells gcells 49 (0, 0)) := HK2.out.2 go gcells _ _ HGB.out (by decide) (by decide)
            have hcell2 : w2.cell? ⟨go, k, none⟩ = some (.slice A1 row.length c1) := by rw [← hcell]; simp only [World.cell?, hg2, HGB.out]
            have HG2 := Aside0.mk hg2
            have hv2 : Kd.R (Kd.int .i64) 3 w2 B (fun q => oki q ∨ w2.heap.size ≤ q) (.slice A1 row.length c1) row := Kd.R_mono (Kd.R_step HV1.out (fun q hq _ => idstep HK2.out (HOKI.out q hq).1)) (fun q h => .inl h)
            have HV2 := Aside0.mk hv2
            have HH2 := Aside0.mk (Kd.H_widen (Kd.H_mono (Kd.H_step HH.out (fun q hq _ _ => idstep HK2.out hq)) (fun q _ => trivial) (ok' := fun _ => True)))
            have HBW2 := Aside0.mk (Nat.le_trans hBj HK2.out.1)
            clear hg2 hv2
            refine hK.out _ _ (hcell2) (fun hHeld => ?_)
            clear hK K
            refine norm_ (a' := ?_) ?_ ?_
            rotate_left
            · show Act.put _ (some 34) _ = _
              simp only [Act.put, List.setIfInBounds_toArray, List.set_cons_zero, List.set_cons_succ, i64_w, i32_w]
              rfl
            refine one_ (i := 9) (N := some 35) #[true, true, true, true, true, true, true, true, true, true, false, false, false] rfl rfl (by kernel_rfl) (by decide) (fun K hK => ?_)
            refine value_ (w1 := ?_) (v := ?_) (by rfl) rfl ?_ ?_
            rotate_left 2
            · go_simp
              constructor
              · rfl
              · rfl
            refine hK.out _ _ (cell_alloc_of hcell2 _) (fun hHeld => ?_)
            clear hK K
            refine norm_ (a' := ?_) ?_ ?_
            rotate_left
            · show Act.put _ (some 35) _ = _
              simp only [Act.put, List.setIfInBounds_toArray, List.set_cons_zero, List.set_cons_succ, i64_w, i32_w]
              rfl
            refine last_ (i := 10) (N := some 36) #[true, true, true, true, true, true, true, true, true, true, true, false, false] rfl rfl (by kernel_rfl) (by decide) (fun K hK => ?_)
            refine Kd.R_append_step (Kd.int .i64) (w0 := w2) B (by rfl) (.tmp 31) (.tmp 35) 49 3 (.int .i64 0) 8 rfl Try.underlying49 info3 rfl (by decide) (by decide) (.slice A1 row.length c1) row (place s (tabAt l0 k j) : Int) [.int .i64 (place s (tabAt l0 k j) : Int)] (fun q => oki q ∨ w2.heap.size ≤ q) (fun _ => False) rfl rfl rfl (fun _ h => h.elim) (fun _ h => .inr h) ?aO (Below.refl _ _) HBW2.out (by omega) ?_
            (case aO => exact HV2.out)
            intro v3 w3 hr3 hb3 hg3 hat3
            obtain ⟨A3, c3, hv3⟩ := Kd.R_slice hr3
            subst hv3
            have hgn : some go ≠ (Value.slice A1 row.length c1).ownBlock := Kd.R_ne HV2.out HG2.out (by decide)
            have hgo2 : go < w2.heap.size := blk_lt HG2.out
            have hg3b := (hg3.block go hgo2 hgn).trans HG2.out
            have hcell3 : w3.cell? ⟨go, k, none⟩ = some (.slice A1 row.length c1) := by rw [← hcell2]; simp only [World.cell?, hg3b, HG2.out]
            have hfr3 : w3.frozen? ⟨go, k, none⟩ = false := frozen_of_row _ _ _ _ _ hg3b
            have HR3 := Aside0.mk hr3
            have HB3 := Aside0.mk hb3
            have HG3 := Aside0.mk hg3
            have HG3B := Aside0.mk hg3b
            clear hr3 hb3 hg3 hg3b hat3 hgn hcell2
            refine hK.out _ _ ?_
            clear hK K
            refine norm_ (a' := ?_) ?_ ?_
            rotate_left
            · show Act.put _ (some 36) _ = _
              simp only [Act.put, List.setIfInBounds_toArray, List.set_cons_zero, List.set_cons_succ, i64_w, i32_w]
              rfl
            refine pure_ (i := 11) (N := some 37) (v := ?_) (a' := ?_) #[true, true, true, true, true, true, true, true, true, true, true, true, false] rfl rfl (by kernel_rfl) (fun _ _ _ h => h) (Or.inl ⟨by rfl, ?_⟩) ?_ ?_
            rotate_left
            · intro w'
              go_simp
              with_reducible rfl
            rotate_left
            · simp only [Act.put, List.setIfInBounds_toArray, List.set_cons_zero, List.set_cons_succ, i64_w, i32_w]
              rfl
            refine last_ (i := 12) (N := none) #[true, true, true, true, true, true, true, true, true, true, true, true, true] rfl rfl (by kernel_rfl) (by decide) (fun K hK => ?_)
            refine skip_ (w1 := ?_) (by rfl) rfl ?_ ?_
            rotate_left
            · go_simp
              rfl
            refine hK.out _ _ ?_
            clear hK K
            refine done_ (by kernel_rfl) ?_

            clear hcell hcell3 hfr3
            go_wp2
            go_roundw
            case measure => simp [intOf]; omega
            case rel =>
              have hr3' := HR3.out
              rw [List.length_append, List.length_singleton] at hr3'
              refine ⟨j + 1, by omega, by go_num, ?_, ?_, ?_⟩
              · exact ⟨by rw [← HRS.out]; exact rows_put HH2.out HV2.out HG3.out hr3' (fun q hq => (HOKI.out q hq).2) hgo2 hrl hlt⟩
              · exact ⟨by rw [← HTS.out]; exact table_put HT2.out HV2.out HG3.out HG3B.out⟩
              · exact ⟨((HBj.out.drew.trans HB2.out).trans HB3.out).setCell (p := ⟨go, k, none⟩) (Kd.S_base HSj.out go rfl) _⟩
          · have hj' : j = l.length := by omega
            subst hj'
            go_wp2
            go_roundw
            case measure => simp [intOf]; omega
            case rel => exact ⟨k + 1, by omega, by go_num, by rw [← rowsAt_end l0 k hlt, HL.out]; exact HSj, by rw [← tabAt_end l0 k hlt, HL.out]; exact HTj, HBj⟩
      · have hk' : k = l0.length := by omega
        subst hk'
        go_wp2
        go_ret
        exact ⟨_, rfl, by simpa [idsAll, HBe.out] using HS.out, by rw [HBe.out]; exact HB.out⟩
  · cases h
end Go.Proofs.Ytnlekganlliikaa.X
