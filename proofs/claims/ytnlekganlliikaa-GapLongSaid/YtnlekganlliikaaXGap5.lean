/-
  gap.Coalesce: by hand.
-/
import Derived.Test.YtnlekganlliikaaXGap4
import Derived.Test.YtnlekganlliikaaXBuild
import Derived.Test.YtnlekganlliikaaXShelf
namespace Go.Proofs.Ytnlekganlliikaa.X
open Go.RowKit Go.Proofs.YtnlekganlliikaaW.PrintWords Go.Proofs.YtnlekganlliikaaW.PrintLast Go.Proofs.YtnlekganlliikaaW.PrintMore
set_option linter.unusedVariables false
set_option linter.unusedSimpArgs false

/-- Marks are 0 or 1. -/
def Bits (x : RowG) : Prop := ∀ m ∈ x.1, m = 0 ∨ m = 1
theorem oneRow_bits (col : Nat) (s : ByteArray) : Bits (oneRow col s) := by
  intro m hm
  rcases List.mem_or_eq_of_mem_set hm with h | h
  · exact .inl (List.eq_of_mem_replicate h)
  · exact .inr h
theorem set_bits {x : RowG} (col : Nat) (h : Bits x) : Bits (x.1.set col 1, x.2) := by
  intro m hm
  rcases List.mem_or_eq_of_mem_set hm with h' | h'
  · exact h m h'
  · exact .inr h'
theorem comeGo_bits (col : Nat) (list : List ByteArray) : ∀ (ms : List Int) (rs : List RowG) (a : Nat), (∀ x ∈ rs, Bits x) → ∀ x ∈ comeGo col list ms rs a, Bits x
  | [], rs, a, hr => by
    rw [comeGo_nil]
    intro x hx
    obtain ⟨s, hs, rfl⟩ := List.mem_map.1 hx
    exact oneRow_bits _ _
  | m :: ms, [], a, hr => by
    intro x hx
    obtain ⟨s, hs, rfl⟩ := List.mem_map.1 hx
    exact oneRow_bits _ _
  | m :: ms, y :: rs, a, hr => by
    have ih := comeGo_bits col list ms rs
    intro x hx
    have hy := hr y List.mem_cons_self
    have hr' : ∀ x ∈ rs, Bits x := fun x hx => hr x (List.mem_cons_of_mem _ hx)
    rw [comeGo] at hx
    split at hx
    · rcases List.mem_append.1 hx with hx | hx
      · obtain ⟨s, hs, rfl⟩ := List.mem_map.1 hx
        exact oneRow_bits _ _
      · rcases List.mem_cons.1 hx with rfl | hx
        · exact set_bits _ hy
        · exact ih _ hr' x hx
    · rcases List.mem_cons.1 hx with rfl | hx
      · exact hy
      · exact ih _ hr' x hx
theorem eachG_bits : ∀ (ls : List (List ByteArray)) (i : Nat) (rs : List RowG) (e : Int), (∀ x ∈ rs, Bits x) → ∀ x ∈ (eachG i ls rs e).1, Bits x
  | [], i, rs, e, hr => hr
  | l :: ls, i, rs, e, hr => by
    refine eachG_bits ls (i + 1) _ _ ?_
    rw [comeS]
    split
    · exact comeGo_bits _ _ _ _ _ hr
    · exact hr
def markB (m : Int) : UInt8 := if m = 0 then 32 else 45
def rowOut (n : Nat) (x : RowG) : S37 := ⟨⟨((x.1.map markB).take n).toArray⟩, x.2⟩
def gapF (lists : List (List ByteArray)) : List S37 × Int :=
  if 16 < lists.length then ([], 1) else if (eachG 0 lists [] 0).2 ≠ 0 then ([], (eachG 0 lists [] 0).2) else ((eachG 0 lists [] 0).1.map (rowOut lists.length), 0)
def gap_Coalesce.f (l0 : List (List ByteArray)) : Option (List S37 × Int) :=
  if ∀ l ∈ l0, l.length ≤ 100000 ∧ ∀ s ∈ l, s.size ≤ maxLen then some (gapF l0) else none
theorem bytes_snoc (x : RowG) (j : Nat) (h : j < x.1.length) (m : Int) (c : Int) (hm : x.1.getD j 0 = m) (hc : ((markB m).toNat : Int) = c) :
    Lib.byteCells ((x.1.take (j + 1)).map markB) = Lib.byteCells ((x.1.take j).map markB) ++ [.int .u8 c] := by
  have e : x.1.take (j + 1) = x.1.take j ++ [m] := by rw [← hm, getD_get h, List.take_append_getElem h]
  rw [e, List.map_append, ← hc]
  simp only [Lib.byteCells, List.map_append, List.map_cons, List.map_nil]

set_option maxRecDepth 100000 in
set_option maxHeartbeats 8000000 in
theorem gap_Coalesce.calls (A0 : Option Addr) (c0 : Nat) (l0 : List (List ByteArray)) (r1 : List S37) (r2 : Int) (w : World) (hr0 : Kd.C (Kd.slice 9 Kd.string) w A0 l0.length l0) (hc0 : l0.length ≤ c0) (h : gap_Coalesce.f l0 = some (r1, r2)) :
    Calls Try.prog 17 #[.slice A0 l0.length c0] w fun e w' => ∃ v0_ : Value, e = .returned (.tuple #[v0_, .int .i64 r2]) ∧ Kd.R k37 37 w' w.heap.size (fun _ => True) v0_ r1 ∧ Below w.heap.size w w' := by
  have HR0 := Aside0.mk hr0
  have HC0 := Aside0.mk hc0
  clear hr0 hc0
  unfold gap_Coalesce.f at h
  split at h
  · rename_i hf
    have HF := Aside0.mk hf
    clear hf
    have H : Aside0 (gapF l0 = (r1, r2)) := ⟨Option.some.inj h⟩
    clear h
    have hn := Kd.C_max HR0.out
    by_cases h16 : 16 < l0.length
    · have e : gapF l0 = ([], 1) := if_pos h16
      rw [e] at H
      obtain ⟨rfl, rfl⟩ := Prod.mk.inj H.out
      clear H e
      go_enter Try.func17, Try.ntmps17
      go_wp2
      go_ret2
      exact ⟨_, rfl, Kd.R_nil _ _ _ _ _, Below.refl _ _⟩
    · go_enter Try.func17, Try.ntmps17
      go_wp2_with fail
      have hbl := Below.alloc (Below.refl w.heap.size w) (Nat.le_refl _) (.cells #[.slice none 0 0, .int .i64 0] 57)
      have hI : RowsIn (w.alloc (.cells #[.slice none 0 0, .int .i64 0] 57)) w.heap.size w.heap.size [] 0 := ⟨_, blk_new _ _, Nat.le_refl _, Kd.R_nil _ _ _ _ _⟩
      refine (gap_each w.heap.size w.heap.size c0 A0 l0 w _ hI HR0.out HC0.out (by omega) (fun l hl => (HF.out l hl).1) (fun l hl => (HF.out l hl).2) rfl hbl).mono ?_
      rintro e2 w2 ⟨rfl, HI2, HB2⟩
      have HOK : Aside0 (RowsOk (fun s => s.size ≤ maxLen) (eachG 0 l0 [] 0).1) := ⟨eachG_ok _ _ _ _ (fun l hl => (HF.out l hl).2) ⟨by simp, by simp⟩⟩
      have HBI : Aside0 (∀ x ∈ (eachG 0 l0 [] 0).1, Bits x) := ⟨eachG_bits _ _ _ _ (by simp)⟩
      have HG : Aside0 (gapF l0 = if (eachG 0 l0 [] 0).2 ≠ 0 then ([], (eachG 0 l0 [] 0).2) else ((eachG 0 l0 [] 0).1.map (rowOut l0.length), 0)) := ⟨if_neg h16⟩
      rw [H.out] at HG
      obtain ⟨rs, hrs⟩ : ∃ rs, (eachG 0 l0 [] 0).1 = rs := ⟨_, rfl⟩
      obtain ⟨er, her⟩ : ∃ er, (eachG 0 l0 [] 0).2 = er := ⟨_, rfl⟩
      rw [hrs, her] at HI2 HG
      rw [hrs] at HOK HBI
      have HB : Aside0 (Below w.heap.size w w2) := ⟨hbl.trans HB2.out⟩
      clear hrs her hI hbl HB2
      obtain ⟨vg, q1, q2, q3⟩ := HI2.out
      have cg0 : w2.cell? ⟨w.heap.size, 0, none⟩ = some vg := cell_blk q1 rfl
      have cg1 : w2.cell? ⟨w.heap.size, 1, none⟩ = some (.int .i64 er) := cell_blk q1 rfl
      have Q3 := Aside0.mk q3
      clear q1 q2 q3
      have hlen := HOK.out.1
      by_cases he : er = 0
      · subst he
        rw [if_neg (by simp)] at HG
        obtain ⟨rfl, rfl⟩ := Prod.mk.inj HG.out
        clear HG H
        obtain ⟨Ag, cgp, rfl⟩ := Kd.R_slice Q3.out
        go_wp2_with fail
        go_loopw [5, 34] (fun o i wr => ∃ k : Nat, k ≤ rs.length ∧ i = .int .i64 k ∧ Aside0 (Kd.R k37 37 wr w2.heap.size (fun _ => True) o ((rs.take k).map (rowOut l0.length))) ∧ Aside0 (Below w2.heap.size w2 wr)) (fun _ i _ => rs.length - (intOf i).toNat)
        case atStart => exact ⟨0, Nat.zero_le _, rfl, ⟨Kd.R_nil _ _ _ _ _⟩, ⟨Below.refl _ _⟩⟩
        case round =>
          obtain ⟨k, hk, rfl, HO, HBr⟩ := hrel
          obtain ⟨wq, rfl⟩ : ∃ wq, wq = wr := ⟨_, rfl⟩
          by_cases hlt : k < rs.length
          · obtain ⟨gb, cap, hev, _, hCk⟩ := kRow_form Q3.out (by omega)
            injection hev with e1 e2 e3
            subst e1; subst e3
            clear e2
            obtain ⟨h16r, hrg⟩ := at_row hCk k hlt
            replace hrg := range_below hrg HBr.out
            have htk : rs.take (k + 1) = rs.take k ++ [rs.getD k ([], ByteArray.empty)] := by rw [getD_get hlt, List.take_append_getElem hlt]
            have hxm : rs.getD k ([], ByteArray.empty) ∈ rs := by rw [getD_get hlt]; exact List.getElem_mem hlt
            have hbx := HBI.out _ hxm
            obtain ⟨x, hx⟩ : ∃ x, rs.getD k ([], ByteArray.empty) = x := ⟨_, rfl⟩
            rw [hx] at h16r hrg htk hbx
            have HX16 := Aside0.mk h16r
            have HRG : Aside0 (wq.rangeAt gb (k * 17) (rowCells x)) := ⟨hrg⟩
            have HTK := Aside0.mk htk
            have HBX := Aside0.mk hbx
            have hl17 := rowCells_len h16r
            have hfold := fold_row h16r
            obtain ⟨Ao, co, rfl⟩ := Kd.R_slice HO.out
            have HNO : Aside0 (((rs.take k).map (rowOut l0.length)).length = k) := ⟨by simp; omega⟩
            rw [HNO.out] at HO ⊢
            clear hrg hx hxm htk hbx hCk h16r
            go_wp2_with (first
              | ((with_reducible refine gate_dst (N := 37) rfl ?_); refine wpList_load_mid rfl 63 _ rfl gb (k * 17) (by rfl) (rowCells x) _ HRG.out Try.underlying63 rfl (size_row' HX16.out) ?_)
              | ((with_reducible refine gate_store (t := 63) (p := 7) rfl ?_); refine wpList_store_row rfl 63 7 _ rfl rfl (b := wq.heap.size) rfl rfl (c' := (rowCells x).toArray) rfl (size_row HX16.out) (by rw [show (rowCells x).toArray.size = 17 from rowCells_len HX16.out]; rfl) rowCells_one ?_; intro w3 hb3 hl3 hz3; have HX3 := Aside0.mk hb3; have HL3 := Aside0.mk hl3; clear hb3 hl3 hz3))
            have hx16 := HX16.out
            go_loopw [43] (fun i wr => ∃ j : Nat, j ≤ l0.length ∧ i = .int .i64 j ∧ Aside0 (Lib.IsBuilder 67 5 w3.heap.size w3.heap.size (Lib.byteCells ((x.1.take j).map markB)) wr) ∧ Aside0 (Below w3.heap.size w3 wr)) (fun i _ => l0.length - (intOf i).toNat)
            case atStart => exact ⟨0, Nat.zero_le _, rfl, ⟨Lib.fresh_isBuilder _ _ _⟩, ⟨(Below.refl _ w3).alloc (Nat.le_refl _) _⟩⟩
            case round =>
              obtain ⟨j, hj, rfl, HIj, HBj⟩ := hrel
              have HXj : Aside0 (wr.heap[wq.heap.size]? = some (.cells (rowCells x).toArray 63 (0, 0))) := ⟨keep_ HX3.out HBj.out⟩
              by_cases hjl : j < l0.length
              · have hjx : j < x.1.length := by omega
                have hm01 := HBX.out _ (List.getElem_mem hjx)
                have hcj : wr.cell? ⟨wq.heap.size, j, none⟩ = some (.int .u8 (x.1.getD j 0)) := by rw [cell_of_row _ _ _ _ _ _ HXj.out, List.getElem?_toArray, getD_get hjx]; exact rowCells_get hjx
                rw [← getD_get (d := 0) hjx] at hm01
                obtain ⟨m, hm⟩ : ∃ m, x.1.getD j 0 = m := ⟨_, rfl⟩
                rw [hm] at hm01 hcj
                rcases hm01 with rfl | rfl
                · go_wp2_with fail
                  refine (writeByte_calls _ _ _ _ _ HIj.out (by rw [Lib.byteCells_length]; simp; omega) (by have := HBj.out.size; omega)).mono ?_
                  rintro e5 w5 ⟨rfl, h5, hb5⟩
                  have H5 := Aside0.mk h5
                  have HB5 := Aside0.mk hb5
                  clear h5 hb5
                  go_wp2
                  go_roundw
                  case measure => simp [intOf]; omega
                  case rel => exact ⟨j + 1, by omega, by go_num, ⟨by rw [bytes_snoc x j hjx _ _ hm rfl]; exact .inr H5.out⟩, ⟨HBj.out.trans HB5.out⟩⟩
                · go_wp2_with fail
                  refine (writeByte_calls _ _ _ _ _ HIj.out (by rw [Lib.byteCells_length]; simp; omega) (by have := HBj.out.size; omega)).mono ?_
                  rintro e5 w5 ⟨rfl, h5, hb5⟩
                  have H5 := Aside0.mk h5
                  have HB5 := Aside0.mk hb5
                  clear h5 hb5
                  go_wp2
                  go_roundw
                  case measure => simp [intOf]; omega
                  case rel => exact ⟨j + 1, by omega, by go_num, ⟨by rw [bytes_snoc x j hjx _ _ hm rfl]; exact .inr H5.out⟩, ⟨HBj.out.trans HB5.out⟩⟩
              · have hj' : j = l0.length := by omega
                subst hj'
                have HWj : Aside0 (Below wq.heap.size wq wr) := ⟨far_ HL3.out HBj.out⟩
                have HOj : Aside0 (Kd.R k37 37 wr w2.heap.size (fun _ => True) (.slice Ao k co) ((rs.take k).map (rowOut l0.length))) := ⟨Kd.R_below HO.out HWj.out⟩
                have h16c : (rowCells x).toArray[16]? = some (.string x.2) := by simpa using rowCells_text HX16.out
                have xj : wr.cell? ⟨wq.heap.size, 16, none⟩ = some (.string x.2) := cell_blk HXj.out h16c
                have HSB : Aside0 (w3.heap.size ≤ wr.drew.heap.size) := ⟨HBj.out.drew.size⟩
                have HL3s : Aside0 (wq.heap.size < w3.heap.size) := ⟨blk_lt HX3.out⟩
                have HB2j : Aside0 (Below w2.heap.size w2 wr) := ⟨HBr.out.trans (HWj.out.mono HBr.out.size)⟩
                have HIDw : Aside0 (Lib.IsBuilder 67 5 w3.heap.size w3.heap.size (Lib.byteCells ((x.1.take l0.length).map markB)) wr.drew) := ⟨HIj.out⟩
                go_wp2
                refine start_ (n := 8) (S := fun w' => w'.cell? ⟨wq.heap.size, 16, none⟩ = some (.string x.2)) (ds := []) #[false, false, false, false, false, false, false, false] (by kernel_rfl) rfl rfl (xj) (fun hHeld => ?_)
                refine pure_ (i := 0) (N := some 51) (v := ?_) (a' := ?_) #[true, false, false, false, false, false, false, false] rfl rfl (by kernel_rfl) (fun _ _ _ h => h) (Or.inl ⟨by rfl, ?_⟩) ?_ ?_
                rotate_left
                · intro w'
                  go_simp
                  with_reducible rfl
                rotate_left
                · simp only [Act.put, List.setIfInBounds_toArray, List.set_cons_zero, List.set_cons_succ, i64_w, i32_w]
                  rfl
                refine pure_ (i := 2) (N := some 53) (v := ?_) (a' := ?_) #[true, false, true, false, false, false, false, false] rfl rfl (by kernel_rfl) (fun _ _ _ h => h) (Or.inl ⟨by rfl, ?_⟩) ?_ ?_
                rotate_left
                · intro w'
                  go_simp
                  with_reducible rfl
                rotate_left
                · simp only [Act.put, List.setIfInBounds_toArray, List.set_cons_zero, List.set_cons_succ, i64_w, i32_w]
                  rfl
                refine take_ (i := 3) (N := some 54) (v := ?_) (a' := ?_) #[true, false, true, true, false, false, false, false] rfl rfl (by kernel_rfl) (fun _ _ _ h => h) (Or.inl ⟨by rfl, ?_⟩) hHeld ?_ ?_
                rotate_left
                · intro w' s0
                  go_simp
                  with_reducible rfl
                rotate_left
                · simp only [Act.put, List.setIfInBounds_toArray, List.set_cons_zero, List.set_cons_succ, i64_w, i32_w]
                  rfl
                refine one_ (i := 1) (N := some 52) #[true, true, true, true, false, false, false, false] rfl rfl (by kernel_rfl) (by decide) (fun K hK => ?_)
                refine goes_ Try.func41 (by kernel_rfl) rfl #[.pointer (some ⟨w3.heap.size, 0, none⟩)] (by rfl) rfl rfl (by simp only [List.map_toArray, List.map_cons, List.map_nil]; rfl) ?_
                with_reducible refine (Try.Builder_String_any w3.heap.size w3.heap.size ((x.1.take l0.length).map markB) wr.drew HIDw.out HSB.out).mono ?_
                rintro e8 w8 ⟨rfl, hb8⟩
                refine ⟨_, rfl, ?_⟩
                have HB8 : Aside0 (Below wr.heap.size wr w8 ∨ Below w3.heap.size wr w8) := ⟨.inr ((Below.refl _ wr).drew.trans hb8)⟩
                have HC8 : Aside0 (Below w3.heap.size wr w8) := ⟨(Below.refl _ wr).drew.trans hb8⟩
                have HX8 : Aside0 (w8.heap[wq.heap.size]? = some (.cells (rowCells x).toArray 63 (0, 0))) := ⟨(HC8.out.block _ HL3s.out).trans HXj.out⟩
                have HO8 : Aside0 (Kd.R k37 37 w8 w2.heap.size (fun _ => True) (.slice Ao k co) ((rs.take k).map (rowOut l0.length))) := ⟨Kd.R_below HO.out (HWj.out.trans (HC8.out.mono (Nat.le_of_lt HL3s.out)))⟩
                have HD8 : Aside0 (Below w2.heap.size w2 w8) := ⟨HB2j.out.trans (HC8.out.mono (by have := HBr.out.size; have := HL3s.out; omega))⟩
                have x8 : w8.cell? ⟨wq.heap.size, 16, none⟩ = some (.string x.2) := cell_blk HX8.out h16c
                refine hK.out _ _ (x8) (fun hHeld => ?_)
                clear hK K
                refine norm_ (a' := ?_) ?_ ?_
                rotate_left
                · show Act.put _ (some 52) _ = _
                  simp only [Act.put, List.setIfInBounds_toArray, List.set_cons_zero, List.set_cons_succ, i64_w, i32_w]
                  rfl
                refine pure_ (i := 4) (N := some 55) (v := ?_) (a' := ?_) #[true, true, true, true, true, false, false, false] rfl rfl (by kernel_rfl) (fun _ _ _ h => h) (Or.inl ⟨by rfl, ?_⟩) ?_ ?_
                rotate_left
                · intro w'
                  go_simp
                  with_reducible rfl
                rotate_left
                · simp only [Act.put, List.setIfInBounds_toArray, List.set_cons_zero, List.set_cons_succ, i64_w, i32_w]
                  rfl
                refine one_ (i := 5) (N := some 56) #[true, true, true, true, true, true, false, false] rfl rfl (by kernel_rfl) (by decide) (fun K hK => ?_)
                refine value_ (w1 := ?_) (v := ?_) (by rfl) rfl ?_ ?_
                rotate_left 2
                · go_simp
                  constructor
                  · rfl
                  · rfl
                refine hK.out _ _ (cell_alloc_of x8 _) (fun hHeld => ?_)
                clear hK K
                refine norm_ (a' := ?_) ?_ ?_
                rotate_left
                · show Act.put _ (some 56) _ = _
                  simp only [Act.put, List.setIfInBounds_toArray, List.set_cons_zero, List.set_cons_succ, i64_w, i32_w]
                  rfl
                refine one_ (i := 6) (N := some 57) #[true, true, true, true, true, true, true, false] rfl rfl (by kernel_rfl) (by decide) (fun K hK => ?_)
                refine Kd.R_append_step k37 (w0 := w2) w2.heap.size (by rfl) (.tmp 51) (.tmp 56) 25 37 (.agg #[(.string ⟨#[]⟩), (.string ⟨#[]⟩)]) 32 rfl Try.underlying25 info37 rfl (by decide) (by omega) (.slice Ao k co) ((rs.take k).map (rowOut l0.length)) (rowOut l0.length x) [.string ⟨((x.1.map markB).take l0.length).toArray⟩, .string x.2] (fun _ => True) (fun _ => False) rfl rfl ?aP (fun _ hk => hk.elim) ?aF ?aO ?aB ?aS ?aL ?_
                (case aP => exact k37_mkM _ _ _ (rowOut l0.length x))
                (case aF => exact (fun _ _ => trivial))
                (case aO => exact (by (with_reducible repeat (first | apply Kd.R_alloc | apply Kd.R_drewN | apply Kd.R_drew)); exact HO8.out))
                (case aB => exact (by repeat (first | (with_reducible first | exact HD8.out | apply below_alloc | apply pw_below_drewN | apply below_drew1) | exact HD8.out)))
                (case aS => exact (below_size (by repeat (first | (with_reducible first | exact HD8.out | apply below_alloc | apply pw_below_drewN | apply below_drew1) | exact HD8.out))))
                (case aL => rw [HNO.out]; omega)
                intro v9 w9 ho9 hb9 hg9 hat9
                have HO9 := Aside0.mk ho9
                have HB9 := Aside0.mk hb9
                have x9 : w9.cell? ⟨wq.heap.size, 16, none⟩ = some (.string x.2) := cell_blk ((hg9.block _ (blk_lt HX8.out) (Kd.R_ne HO8.out HX8.out (by decide))).trans HX8.out) h16c
                clear ho9 hb9 hg9 hat9
                refine hK.out _ _ (x9) (fun hHeld => ?_)
                clear hK K
                refine norm_ (a' := ?_) ?_ ?_
                rotate_left
                · show Act.put _ (some 57) _ = _
                  simp only [Act.put, List.setIfInBounds_toArray, List.set_cons_zero, List.set_cons_succ, i64_w, i32_w]
                  rfl
                refine pure_ (i := 7) (N := some 5) (v := ?_) (a' := ?_) #[true, true, true, true, true, true, true, true] rfl rfl (by kernel_rfl) (fun _ _ _ h => h) (Or.inl ⟨by rfl, ?_⟩) ?_ ?_
                rotate_left
                · intro w'
                  go_simp
                  with_reducible rfl
                rotate_left
                · simp only [Act.put, List.setIfInBounds_toArray, List.set_cons_zero, List.set_cons_succ, i64_w, i32_w]
                  rfl
                refine done_ (by kernel_rfl) ?_

                go_wp2
                go_roundw
                case measure => simp [intOf]; omega
                case rel => exact ⟨k + 1, by omega, by go_num, ⟨by rw [HTK.out, List.map_append]; exact HO9.out⟩, HB9⟩
          · have hk' : k = rs.length := by omega
            subst hk'
            rw [List.take_length] at HO
            go_wp2
            go_ret2
            exact ⟨_, rfl, Kd.R_lower HO.out HB.out.size, HB.out.trans (HBr.out.mono HB.out.size)⟩
      · rw [if_pos he] at HG
        obtain ⟨rfl, rfl⟩ := Prod.mk.inj HG.out
        clear HG H
        go_wp2
        refine start_ (n := 6) (S := fun w' => w'.cell? ⟨w.heap.size, 1, none⟩ = some (.int .i64 r2)) (ds := []) #[false, false, false, false, false, false] (by kernel_rfl) rfl rfl (cg1) (fun hHeld => ?_)
        refine pure_ (i := 0) (N := some 25) (v := ?_) (a' := ?_) #[true, false, false, false, false, false] rfl rfl (by kernel_rfl) (fun _ _ _ h => h) (Or.inl ⟨by rfl, ?_⟩) ?_ ?_
        rotate_left
        · intro w'
          go_simp
          with_reducible rfl
        rotate_left
        · simp only [Act.put, List.setIfInBounds_toArray, List.set_cons_zero, List.set_cons_succ, i64_w, i32_w]
          rfl
        refine pure_ (i := 1) (N := some 26) (v := ?_) (a' := ?_) #[true, true, false, false, false, false] rfl rfl (by kernel_rfl) (fun _ _ _ h => h) (Or.inl ⟨by rfl, ?_⟩) ?_ ?_
        rotate_left
        · intro w'
          go_simp
          with_reducible rfl
        rotate_left
        · simp only [Act.put, List.setIfInBounds_toArray, List.set_cons_zero, List.set_cons_succ, i64_w, i32_w]
          rfl
        refine pure_ (i := 2) (N := some 27) (v := ?_) (a' := ?_) #[true, true, true, false, false, false] rfl rfl (by kernel_rfl) (fun _ _ _ h => h) (Or.inl ⟨by rfl, ?_⟩) ?_ ?_
        rotate_left
        · intro w'
          go_simp
          with_reducible rfl
        rotate_left
        · simp only [Act.put, List.setIfInBounds_toArray, List.set_cons_zero, List.set_cons_succ, i64_w, i32_w]
          rfl
        refine pure_ (i := 4) (N := some 2) (v := ?_) (a' := ?_) #[true, true, true, false, true, false] rfl rfl (by kernel_rfl) (fun _ _ _ h => h) (Or.inl ⟨by rfl, ?_⟩) ?_ ?_
        rotate_left
        · intro w'
          go_simp
          with_reducible rfl
        rotate_left
        · simp only [Act.put, List.setIfInBounds_toArray, List.set_cons_zero, List.set_cons_succ, i64_w, i32_w]
          rfl
        refine take_ (i := 3) (N := some 28) (v := ?_) (a' := ?_) #[true, true, true, true, true, false] rfl rfl (by kernel_rfl) (fun _ _ _ h => h) (Or.inl ⟨by rfl, ?_⟩) hHeld ?_ ?_
        rotate_left
        · intro w' s0
          go_simp
          with_reducible rfl
        rotate_left
        · simp only [Act.put, List.setIfInBounds_toArray, List.set_cons_zero, List.set_cons_succ, i64_w, i32_w]
          rfl
        refine pure_ (i := 5) (N := some 3) (v := ?_) (a' := ?_) #[true, true, true, true, true, true] rfl rfl (by kernel_rfl) (fun _ _ _ h => h) (Or.inl ⟨by rfl, ?_⟩) ?_ ?_
        rotate_left
        · intro w'
          go_simp
          with_reducible rfl
        rotate_left
        · simp only [Act.put, List.setIfInBounds_toArray, List.set_cons_zero, List.set_cons_succ, i64_w, i32_w]
          rfl
        refine done_ (by kernel_rfl) ?_

        go_wp2
        go_ret2
        exact ⟨_, rfl, Kd.R_nil _ _ _ _ _, HB.out.drew⟩
  · cases h
end Go.Proofs.Ytnlekganlliikaa.X
