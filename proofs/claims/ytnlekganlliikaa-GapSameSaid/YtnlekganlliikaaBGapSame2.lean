/-
  Parts of one proof, one behind the other: XBuild, XGap5, XGn1, XRn4, XTn1, XGives, XRef02, XRef03, XPairMath, XGapLaw, XRef19, XGapL, XGapTells, XGapSame.
-/
import Derived.Test.YtnlekganlliikaaBGapSame1
import Derived.Shelf.Strings.Builder1
import Derived.IntWalk
import Derived.Lib.Strings
-- part XBuild
namespace Go.Proofs.Ytnlekganlliikaa.X
open Go.RowKit Go.Proofs.YtnlekganlliikaaW.PrintWords Go.Proofs.YtnlekganlliikaaW.PrintLast Go.Proofs.YtnlekganlliikaaW.PrintMore
set_option linter.unusedVariables false
set_option linter.unusedSimpArgs false
theorem sizeBuilder : (Try.prog.info? 67).map (·.size) = some 2 := by kernel_rfl

set_option maxHeartbeats 1000000 in
set_option maxRecDepth 100000 in
theorem copyCheck_used (b : Nat) (w : World) (h0 : w.cell? ⟨b, 0, none⟩ = some (.pointer (some ⟨b, 0, none⟩))) :
    Calls Try.prog 66 #[.pointer (some ⟨b, 0, none⟩)] w fun e w' => e = .returned (.tuple #[]) ∧ w' = w := by
  obtain ⟨j, hj, _⟩ := Option.map_eq_some_iff.1 sizeBuilder
  go_enter Try.func66, Try.ntmps66
  go_wp2
  rw [Lib.run_neq_ptr_same w _ Try.underlying64 hj]
  go_wp2
  go_end0
  exact ⟨rfl, rfl⟩

set_option maxHeartbeats 1000000 in
set_option maxRecDepth 100000 in
theorem copyCheck_fresh (b : Nat) (w : World) (h0 : w.cell? ⟨b, 0, none⟩ = some (.pointer none)) (hsh : w.shape? b = some (67, 2)) (hfz : w.frozen? ⟨b, 0, none⟩ = false) :
    Calls Try.prog 66 #[.pointer (some ⟨b, 0, none⟩)] w fun e w' => e = .returned (.tuple #[]) ∧ w' = w.setCell ⟨b, 0, none⟩ (.pointer (some ⟨b, 0, none⟩)) := by
  obtain ⟨j, hj, hjs⟩ := Option.map_eq_some_iff.1 sizeBuilder
  go_enter Try.func66, Try.ntmps66
  go_wp2
  rw [Lib.run_to_unsafe w ⟨b, 0, none⟩ Try.underlying64 Try.underlying132 hj (by rw [hjs]; decide) hsh (Nat.zero_lt_succ 1)]
  simp only [Result.andThen]
  rw [Oper.upon_value]
  go_wp2
  rw [run_callFunc_extern Try.func83 (by kernel_rfl) (by kernel_rfl) (by kernel_rfl) (e := Extern.AbiNoEscape.same) (by kernel_rfl)]
  rw [Lib.run_noEscape]
  simp only [Result.andThen]
  rw [Oper.upon_value]
  go_wp2
  rw [Lib.run_from_unsafe w ⟨b, 0, none⟩ Try.underlying132 Try.underlying64 hj hsh (by kernel_rfl)]
  simp only [Result.andThen]
  rw [Oper.upon_value]
  go_wp2
  go_end0
  exact ⟨rfl, rfl⟩

theorem copyCheck_calls (B b : Nat) (bs : List Value) (w : World) (h : Lib.IsBuilder 67 5 B b bs w) :
    Calls Try.prog 66 #[.pointer (some ⟨b, 0, none⟩)] w fun e w' => e = .returned (.tuple #[]) ∧ (Lib.BuilderAt 67 5 B b (.pointer (some ⟨b, 0, none⟩)) bs w' ∧ Below B w w') := by
  rcases h with h | h
  · refine (copyCheck_fresh b w h.cell0 h.shape h.frozen0).mono ?_
    rintro e w' ⟨rfl, rfl⟩
    exact ⟨rfl, h.used _, (Below.refl B w).setCell (p := ⟨b, 0, none⟩) h.1 _⟩
  · refine (copyCheck_used b w h.cell0).mono ?_
    rintro e w' ⟨rfl, rfl⟩
    exact ⟨rfl, h, Below.refl B _⟩

set_option maxHeartbeats 2000000 in
set_option maxRecDepth 100000 in
theorem writeByte_calls (B b : Nat) (bs : List Value) (c : Int) (w : World) (h : Lib.IsBuilder 67 5 B b bs w) (hlen : bs.length + 1 ≤ 140737488355328) (hBw : B ≤ w.heap.size) :
    Calls Try.prog 40 #[.pointer (some ⟨b, 0, none⟩), .int .u8 c] w fun e w' => e = .returned .nilIface ∧ (Lib.BuilderAt 67 5 B b (.pointer (some ⟨b, 0, none⟩)) (bs ++ [.int .u8 c]) w' ∧ Below B w w') := by
  obtain ⟨i0, hi, hz0, hz1, hz2⟩ := info_parts (P := Try.prog) (e := 5) (z := .int .u8 0) (size := 1) (bytes := 1) (by kernel_rfl)
  go_enter Try.func40, Try.ntmps40
  go_wp2_with fail
  refine (copyCheck_calls B b bs _ h).mono ?_
  rintro e w1 ⟨rfl, h1, hb1⟩
  obtain ⟨hB, v, hbk, hown, hne⟩ := h1
  have c0 : w1.cell? ⟨b, 0, none⟩ = some (.pointer (some ⟨b, 0, none⟩)) := by rw [Lib.cell_of_heap hbk]; rfl
  have c1 : w1.cell? ⟨b, 1, none⟩ = some v := by rw [Lib.cell_of_heap hbk]; rfl
  go_wp2_with (at_builtin; refine wpList_append_own _ rfl _ _ 65 rfl B 5 i0 (.int .u8 0) 1 1 Try.underlying65 hi hz0 hz1 hz2 rfl (by decide) _ _ _ rfl (hown.alloc _) ⟨w1.heap.size, 0, none⟩ 1 1 [.int .u8 c] rfl rfl ?c1 ?c2 ?c3 ?c4 ?c5 ?_)
  case c1 =>
    intro j u hj
    match j, hj with
    | 0, hj => simp at hj; subst hj; simp [Addr.add]
  case c2 => intro u hu; simp at hu; subst hu; rfl
  case c3 => unfold maxLen; omega
  case c4 => omega
  case c5 => have := hb1.size; simp; omega
  intro v' w2 hown' hgrow _
  have hlt : b < w1.heap.size := by
    rcases Nat.lt_or_ge b w1.heap.size with h' | h'
    · exact h'
    · simp [Array.getElem?_eq_none h'] at hbk
  have hb2 : w2.heap[b]? = some (.cells #[.pointer (some ⟨b, 0, none⟩), v] 67 (0, 0)) := by
    rw [hgrow.block b (by simp; omega) (fun e => hne e.symm), Lib.alloc_old w1 _ b hlt]
    exact hbk
  have d0 : w2.cell? ⟨b, 0, none⟩ = some (.pointer (some ⟨b, 0, none⟩)) := by rw [Lib.cell_of_heap hb2]; rfl
  have d1 : w2.cell? ⟨b, 1, none⟩ = some v := by rw [Lib.cell_of_heap hb2]; rfl
  have f1 : w2.frozen? ⟨b, 1, none⟩ = false := Lib.frozen_of_heap hb2 1
  obtain ⟨g, cap, rfl⟩ : ∃ g cap, v' = .slice (some ⟨g, 0, none⟩) (bs.length + 1) cap := by
    rcases hown'.2 with ⟨_, h0⟩ | ⟨g, cap, cur, hv, _⟩
    · omega
    · exact ⟨g, cap, hv⟩
  go_wp2
  go_ret
  refine ⟨rfl, ?_, ?_⟩
  · exact Lib.BuilderAt.put (T := 67) (e := 5) hB hb2 (bs' := bs ++ [.int .u8 c]) (by simpa using hown') (by decide)
  · exact ((hb1.alloc (by have := hb1.size; omega) _).grown hgrow (by have := hb1.size; simp; omega) (fun k hk => (hown.lt k hk).1)).setCell (p := ⟨b, 1, none⟩) hB _
end Go.Proofs.Ytnlekganlliikaa.X
-- part XGap5
namespace Go.Proofs.Ytnlekganlliikaa.X
open Go.RowKit Go.Proofs.YtnlekganlliikaaW.PrintWords Go.Proofs.YtnlekganlliikaaW.PrintLast Go.Proofs.YtnlekganlliikaaW.PrintMore
set_option linter.unusedVariables false
set_option linter.unusedSimpArgs false
/-- Marks are 0 or 1. -/
def Bits (x : RowG) : Prop := ∀ m ∈ x.1, m = 0 ∨ m = 1
theorem oneRow_bits (col : Nat) (s : ByteArray) : Bits (oneRow col s) := by
  intro m hm
  rcases List.mem_or_eq_of_mem_set hm with h | h
  · exact .inl (List.eq_of_mem_replicate h)
  · exact .inr h
theorem set_bits {x : RowG} (col : Nat) (h : Bits x) : Bits (x.1.set col 1, x.2) := by
  intro m hm
  rcases List.mem_or_eq_of_mem_set hm with h' | h'
  · exact h m h'
  · exact .inr h'
theorem comeGo_bits (col : Nat) (list : List ByteArray) : ∀ (ms : List Int) (rs : List RowG) (a : Nat), (∀ x ∈ rs, Bits x) → ∀ x ∈ comeGo col list ms rs a, Bits x
  | [], rs, a, hr => by
    rw [comeGo_nil]
    intro x hx
    obtain ⟨s, hs, rfl⟩ := List.mem_map.1 hx
    exact oneRow_bits _ _
  | m :: ms, [], a, hr => by
    intro x hx
    obtain ⟨s, hs, rfl⟩ := List.mem_map.1 hx
    exact oneRow_bits _ _
  | m :: ms, y :: rs, a, hr => by
    have ih := comeGo_bits col list ms rs
    intro x hx
    have hy := hr y List.mem_cons_self
    have hr' : ∀ x ∈ rs, Bits x := fun x hx => hr x (List.mem_cons_of_mem _ hx)
    rw [comeGo] at hx
    split at hx
    · rcases List.mem_append.1 hx with hx | hx
      · obtain ⟨s, hs, rfl⟩ := List.mem_map.1 hx
        exact oneRow_bits _ _
      · rcases List.mem_cons.1 hx with rfl | hx
        · exact set_bits _ hy
        · exact ih _ hr' x hx
    · rcases List.mem_cons.1 hx with rfl | hx
      · exact hy
      · exact ih _ hr' x hx
theorem eachG_bits : ∀ (ls : List (List ByteArray)) (i : Nat) (rs : List RowG) (e : Int), (∀ x ∈ rs, Bits x) → ∀ x ∈ (eachG i ls rs e).1, Bits x
  | [], i, rs, e, hr => hr
  | l :: ls, i, rs, e, hr => by
    refine eachG_bits ls (i + 1) _ _ ?_
    rw [comeS]
    split
    · exact comeGo_bits _ _ _ _ _ hr
    · exact hr
def markB (m : Int) : UInt8 := if m = 0 then 32 else 45
def rowOut (n : Nat) (x : RowG) : S37 := ⟨⟨((x.1.map markB).take n).toArray⟩, x.2⟩
def gapF (lists : List (List ByteArray)) : List S37 × Int :=
  if 16 < lists.length then ([], 1) else if (eachG 0 lists [] 0).2 ≠ 0 then ([], (eachG 0 lists [] 0).2) else ((eachG 0 lists [] 0).1.map (rowOut lists.length), 0)
def gap_Coalesce.f (l0 : List (List ByteArray)) : Option (List S37 × Int) :=
  if ∀ l ∈ l0, l.length ≤ 100000 ∧ ∀ s ∈ l, s.size ≤ maxLen then some (gapF l0) else none
theorem bytes_snoc (x : RowG) (j : Nat) (h : j < x.1.length) (m : Int) (c : Int) (hm : x.1.getD j 0 = m) (hc : ((markB m).toNat : Int) = c) :
    Lib.byteCells ((x.1.take (j + 1)).map markB) = Lib.byteCells ((x.1.take j).map markB) ++ [.int .u8 c] := by
  have e : x.1.take (j + 1) = x.1.take j ++ [m] := by rw [← hm, getD_get h, List.take_append_getElem h]
  rw [e, List.map_append, ← hc]
  simp only [Lib.byteCells, List.map_append, List.map_cons, List.map_nil]

set_option maxRecDepth 100000 in
set_option maxHeartbeats 8000000 in
theorem gap_Coalesce.calls (A0 : Option Addr) (c0 : Nat) (l0 : List (List ByteArray)) (r1 : List S37) (r2 : Int) (w : World) (hr0 : Kd.C (Kd.slice 9 Kd.string) w A0 l0.length l0) (hc0 : l0.length ≤ c0) (h : gap_Coalesce.f l0 = some (r1, r2)) :
    Calls Try.prog 17 #[.slice A0 l0.length c0] w fun e w' => ∃ v0_ : Value, e = .returned (.tuple #[v0_, .int .i64 r2]) ∧ Kd.R k37 37 w' w.heap.size (fun _ => True) v0_ r1 ∧ Below w.heap.size w w' := by
  have HR0 := Aside0.mk hr0
  have HC0 := Aside0.mk hc0
  clear hr0 hc0
  unfold gap_Coalesce.f at h
  split at h
  · rename_i hf
    have HF := Aside0.mk hf
    clear hf
    have H : Aside0 (gapF l0 = (r1, r2)) := ⟨Option.some.inj h⟩
    clear h
    have hn := Kd.C_max HR0.out
    by_cases h16 : 16 < l0.length
    · have e : gapF l0 = ([], 1) := if_pos h16
      rw [e] at H
      obtain ⟨rfl, rfl⟩ := Prod.mk.inj H.out
      clear H e
      go_enter Try.func17, Try.ntmps17
      go_wp2
      go_ret2
      exact ⟨_, rfl, Kd.R_nil _ _ _ _ _, Below.refl _ _⟩
    · go_enter Try.func17, Try.ntmps17
      go_wp2_with fail
      have hbl := Below.alloc (Below.refl w.heap.size w) (Nat.le_refl _) (.cells #[.slice none 0 0, .int .i64 0] 57)
      have hI : RowsIn (w.alloc (.cells #[.slice none 0 0, .int .i64 0] 57)) w.heap.size w.heap.size [] 0 := ⟨_, blk_new _ _, Nat.le_refl _, Kd.R_nil _ _ _ _ _⟩
      refine (gap_each w.heap.size w.heap.size c0 A0 l0 w _ hI HR0.out HC0.out (by omega) (fun l hl => (HF.out l hl).1) (fun l hl => (HF.out l hl).2) rfl hbl).mono ?_
      rintro e2 w2 ⟨rfl, HI2, HB2⟩
      have HOK : Aside0 (RowsOk (fun s => s.size ≤ maxLen) (eachG 0 l0 [] 0).1) := ⟨eachG_ok _ _ _ _ (fun l hl => (HF.out l hl).2) ⟨by simp, by simp⟩⟩
      have HBI : Aside0 (∀ x ∈ (eachG 0 l0 [] 0).1, Bits x) := ⟨eachG_bits _ _ _ _ (by simp)⟩
      have HG : Aside0 (gapF l0 = if (eachG 0 l0 [] 0).2 ≠ 0 then ([], (eachG 0 l0 [] 0).2) else ((eachG 0 l0 [] 0).1.map (rowOut l0.length), 0)) := ⟨if_neg h16⟩
      rw [H.out] at HG
      obtain ⟨rs, hrs⟩ : ∃ rs, (eachG 0 l0 [] 0).1 = rs := ⟨_, rfl⟩
      obtain ⟨er, her⟩ : ∃ er, (eachG 0 l0 [] 0).2 = er := ⟨_, rfl⟩
      rw [hrs, her] at HI2 HG
      rw [hrs] at HOK HBI
      have HB : Aside0 (Below w.heap.size w w2) := ⟨hbl.trans HB2.out⟩
      clear hrs her hI hbl HB2
      obtain ⟨vg, q1, q2, q3⟩ := HI2.out
      have cg0 : w2.cell? ⟨w.heap.size, 0, none⟩ = some vg := cell_blk q1 rfl
      have cg1 : w2.cell? ⟨w.heap.size, 1, none⟩ = some (.int .i64 er) := cell_blk q1 rfl
      have Q3 := Aside0.mk q3
      clear q1 q2 q3
      have hlen := HOK.out.1
      by_cases he : er = 0
      · subst he
        rw [if_neg (by simp)] at HG
        obtain ⟨rfl, rfl⟩ := Prod.mk.inj HG.out
        clear HG H
        obtain ⟨Ag, cgp, rfl⟩ := Kd.R_slice Q3.out
        go_wp2_with fail
        go_loopw [5, 34] (fun o i wr => ∃ k : Nat, k ≤ rs.length ∧ i = .int .i64 k ∧ Aside0 (Kd.R k37 37 wr w2.heap.size (fun _ => True) o ((rs.take k).map (rowOut l0.length))) ∧ Aside0 (Below w2.heap.size w2 wr)) (fun _ i _ => rs.length - (intOf i).toNat)
        case atStart => exact ⟨0, Nat.zero_le _, rfl, ⟨Kd.R_nil _ _ _ _ _⟩, ⟨Below.refl _ _⟩⟩
        case round =>
          obtain ⟨k, hk, rfl, HO, HBr⟩ := hrel
          obtain ⟨wq, rfl⟩ : ∃ wq, wq = wr := ⟨_, rfl⟩
          by_cases hlt : k < rs.length
          · obtain ⟨gb, cap, hev, _, hCk⟩ := kRow_form Q3.out (by omega)
            injection hev with e1 e2 e3
            subst e1; subst e3
            clear e2
            obtain ⟨h16r, hrg⟩ := at_row hCk k hlt
            replace hrg := range_below hrg HBr.out
            have htk : rs.take (k + 1) = rs.take k ++ [rs.getD k ([], ByteArray.empty)] := by rw [getD_get hlt, List.take_append_getElem hlt]
            have hxm : rs.getD k ([], ByteArray.empty) ∈ rs := by rw [getD_get hlt]; exact List.getElem_mem hlt
            have hbx := HBI.out _ hxm
            obtain ⟨x, hx⟩ : ∃ x, rs.getD k ([], ByteArray.empty) = x := ⟨_, rfl⟩
            rw [hx] at h16r hrg htk hbx
            have HX16 := Aside0.mk h16r
            have HRG : Aside0 (wq.rangeAt gb (k * 17) (rowCells x)) := ⟨hrg⟩
            have HTK := Aside0.mk htk
            have HBX := Aside0.mk hbx
            have hl17 := rowCells_len h16r
            have hfold := fold_row h16r
            obtain ⟨Ao, co, rfl⟩ := Kd.R_slice HO.out
            have HNO : Aside0 (((rs.take k).map (rowOut l0.length)).length = k) := ⟨by simp; omega⟩
            rw [HNO.out] at HO ⊢
            clear hrg hx hxm htk hbx hCk h16r
            go_wp2_with (first
              | ((with_reducible refine gate_dst (N := 37) rfl ?_); refine wpList_load_mid rfl 63 _ rfl gb (k * 17) (by rfl) (rowCells x) _ HRG.out Try.underlying63 rfl (size_row' HX16.out) ?_)
              | ((with_reducible refine gate_store (t := 63) (p := 7) rfl ?_); refine wpList_store_row rfl 63 7 _ rfl rfl (b := wq.heap.size) rfl rfl (c' := (rowCells x).toArray) rfl (size_row HX16.out) (by rw [show (rowCells x).toArray.size = 17 from rowCells_len HX16.out]; rfl) rowCells_one ?_; intro w3 hb3 hl3 hz3; have HX3 := Aside0.mk hb3; have HL3 := Aside0.mk hl3; clear hb3 hl3 hz3))
            have hx16 := HX16.out
            go_loopw [43] (fun i wr => ∃ j : Nat, j ≤ l0.length ∧ i = .int .i64 j ∧ Aside0 (Lib.IsBuilder 67 5 w3.heap.size w3.heap.size (Lib.byteCells ((x.1.take j).map markB)) wr) ∧ Aside0 (Below w3.heap.size w3 wr)) (fun i _ => l0.length - (intOf i).toNat)
            case atStart => exact ⟨0, Nat.zero_le _, rfl, ⟨Lib.fresh_isBuilder _ _ _⟩, ⟨(Below.refl _ w3).alloc (Nat.le_refl _) _⟩⟩
            case round =>
              obtain ⟨j, hj, rfl, HIj, HBj⟩ := hrel
              have HXj : Aside0 (wr.heap[wq.heap.size]? = some (.cells (rowCells x).toArray 63 (0, 0))) := ⟨keep_ HX3.out HBj.out⟩
              by_cases hjl : j < l0.length
              · have hjx : j < x.1.length := by omega
                have hm01 := HBX.out _ (List.getElem_mem hjx)
                have hcj : wr.cell? ⟨wq.heap.size, j, none⟩ = some (.int .u8 (x.1.getD j 0)) := by rw [cell_of_row _ _ _ _ _ _ HXj.out, List.getElem?_toArray, getD_get hjx]; exact rowCells_get hjx
                rw [← getD_get (d := 0) hjx] at hm01
                obtain ⟨m, hm⟩ : ∃ m, x.1.getD j 0 = m := ⟨_, rfl⟩
                rw [hm] at hm01 hcj
                rcases hm01 with rfl | rfl
                · go_wp2_with fail
                  refine (writeByte_calls _ _ _ _ _ HIj.out (by rw [Lib.byteCells_length]; simp; omega) (by have := HBj.out.size; omega)).mono ?_
                  rintro e5 w5 ⟨rfl, h5, hb5⟩
                  have H5 := Aside0.mk h5
                  have HB5 := Aside0.mk hb5
                  clear h5 hb5
                  go_wp2
                  go_roundw
                  case measure => simp [intOf]; omega
                  case rel => exact ⟨j + 1, by omega, by go_num, ⟨by rw [bytes_snoc x j hjx _ _ hm rfl]; exact .inr H5.out⟩, ⟨HBj.out.trans HB5.out⟩⟩
                · go_wp2_with fail
                  refine (writeByte_calls _ _ _ _ _ HIj.out (by rw [Lib.byteCells_length]; simp; omega) (by have := HBj.out.size; omega)).mono ?_
                  rintro e5 w5 ⟨rfl, h5, hb5⟩
                  have H5 := Aside0.mk h5
                  have HB5 := Aside0.mk hb5
                  clear h5 hb5
                  go_wp2
                  go_roundw
                  case measure => simp [intOf]; omega
                  case rel => exact ⟨j + 1, by omega, by go_num, ⟨by rw [bytes_snoc x j hjx _ _ hm rfl]; exact .inr H5.out⟩, ⟨HBj.out.trans HB5.out⟩⟩
              · have hj' : j = l0.length := by omega
                subst hj'
                have HWj : Aside0 (Below wq.heap.size wq wr) := ⟨far_ HL3.out HBj.out⟩
                have HOj : Aside0 (Kd.R k37 37 wr w2.heap.size (fun _ => True) (.slice Ao k co) ((rs.take k).map (rowOut l0.length))) := ⟨Kd.R_below HO.out HWj.out⟩
                have h16c : (rowCells x).toArray[16]? = some (.string x.2) := by simpa using rowCells_text HX16.out
                have xj : wr.cell? ⟨wq.heap.size, 16, none⟩ = some (.string x.2) := cell_blk HXj.out h16c
                have HSB : Aside0 (w3.heap.size ≤ wr.drew.heap.size) := ⟨HBj.out.drew.size⟩
                have HL3s : Aside0 (wq.heap.size < w3.heap.size) := ⟨blk_lt HX3.out⟩
                have HB2j : Aside0 (Below w2.heap.size w2 wr) := ⟨HBr.out.trans (HWj.out.mono HBr.out.size)⟩
                have HIDw : Aside0 (Lib.IsBuilder 67 5 w3.heap.size w3.heap.size (Lib.byteCells ((x.1.take l0.length).map markB)) wr.drew) := ⟨HIj.out⟩
                go_wp2
                refine start_ (n := 8) (S := fun w' => w'.cell? ⟨wq.heap.size, 16, none⟩ = some (.string x.2)) (ds := []) #[false, false, false, false, false, false, false, false] (by kernel_rfl) rfl rfl (xj) (fun hHeld => ?_)
                refine pure_ (i := 0) (N := some 51) (v := ?_) (a' := ?_) #[true, false, false, false, false, false, false, false] rfl rfl (by kernel_rfl) (fun _ _ _ h => h) (Or.inl ⟨by rfl, ?_⟩) ?_ ?_
                rotate_left
                · intro w'
                  go_simp
                  with_reducible rfl
                rotate_left
                · simp only [Act.put, List.setIfInBounds_toArray, List.set_cons_zero, List.set_cons_succ, i64_w, i32_w]
                  rfl
                refine pure_ (i := 2) (N := some 53) (v := ?_) (a' := ?_) #[true, false, true, false, false, false, false, false] rfl rfl (by kernel_rfl) (fun _ _ _ h => h) (Or.inl ⟨by rfl, ?_⟩) ?_ ?_
                rotate_left
                · intro w'
                  go_simp
                  with_reducible rfl
                rotate_left
                · simp only [Act.put, List.setIfInBounds_toArray, List.set_cons_zero, List.set_cons_succ, i64_w, i32_w]
                  rfl
                refine take_ (i := 3) (N := some 54) (v := ?_) (a' := ?_) #[true, false, true, true, false, false, false, false] rfl rfl (by kernel_rfl) (fun _ _ _ h => h) (Or.inl ⟨by rfl, ?_⟩) hHeld ?_ ?_
                rotate_left
                · intro w' s0
                  go_simp
                  with_reducible rfl
                rotate_left
                · simp only [Act.put, List.setIfInBounds_toArray, List.set_cons_zero, List.set_cons_succ, i64_w, i32_w]
                  rfl
                refine one_ (i := 1) (N := some 52) #[true, true, true, true, false, false, false, false] rfl rfl (by kernel_rfl) (by decide) (fun K hK => ?_)
                refine goes_ Try.func41 (by kernel_rfl) rfl #[.pointer (some ⟨w3.heap.size, 0, none⟩)] (by rfl) rfl rfl (by simp only [List.map_toArray, List.map_cons, List.map_nil]; rfl) ?_
                with_reducible refine (Try.Builder_String_any w3.heap.size w3.heap.size ((x.1.take l0.length).map markB) wr.drew HIDw.out HSB.out).mono ?_
                rintro e8 w8 ⟨rfl, hb8⟩
                refine ⟨_, rfl, ?_⟩
                have HB8 : Aside0 (Below wr.heap.size wr w8 ∨ Below w3.heap.size wr w8) := ⟨.inr ((Below.refl _ wr).drew.trans hb8)⟩
                have HC8 : Aside0 (Below w3.heap.size wr w8) := ⟨(Below.refl _ wr).drew.trans hb8⟩
                have HX8 : Aside0 (w8.heap[wq.heap.size]? = some (.cells (rowCells x).toArray 63 (0, 0))) := ⟨(HC8.out.block _ HL3s.out).trans HXj.out⟩
                have HO8 : Aside0 (Kd.R k37 37 w8 w2.heap.size (fun _ => True) (.slice Ao k co) ((rs.take k).map (rowOut l0.length))) := ⟨Kd.R_below HO.out (HWj.out.trans (HC8.out.mono (Nat.le_of_lt HL3s.out)))⟩
                have HD8 : Aside0 (Below w2.heap.size w2 w8) := ⟨HB2j.out.trans (HC8.out.mono (by have := HBr.out.size; have := HL3s.out; omega))⟩
                have x8 : w8.cell? ⟨wq.heap.size, 16, none⟩ = some (.string x.2) := cell_blk HX8.out h16c
                refine hK.out _ _ (x8) (fun hHeld => ?_)
                clear hK K
                refine norm_ (a' := ?_) ?_ ?_
                rotate_left
                · show Act.put _ (some 52) _ = _
                  simp only [Act.put, List.setIfInBounds_toArray, List.set_cons_zero, List.set_cons_succ, i64_w, i32_w]
                  rfl
                refine pure_ (i := 4) (N := some 55) (v := ?_) (a' := ?_) #[true, true, true, true, true, false, false, false] rfl rfl (by kernel_rfl) (fun _ _ _ h => h) (Or.inl ⟨by rfl, ?_⟩) ?_ ?_
                rotate_left
                · intro w'
                  go_simp
                  with_reducible rfl
                rotate_left
                · simp only [Act.put, List.setIfInBounds_toArray, List.set_cons_zero, List.set_cons_succ, i64_w, i32_w]
                  rfl
                refine one_ (i := 5) (N := some 56) #[true, true, true, true, true, true, false, false] rfl rfl (by kernel_rfl) (by decide) (fun K hK => ?_)
                refine value_ (w1 := ?_) (v := ?_) (by rfl) rfl ?_ ?_
                rotate_left 2
                · go_simp
                  constructor
                  · rfl
                  · rfl
                refine hK.out _ _ (cell_alloc_of x8 _) (fun hHeld => ?_)
                clear hK K
                refine norm_ (a' := ?_) ?_ ?_
                rotate_left
                · show Act.put _ (some 56) _ = _
                  simp only [Act.put, List.setIfInBounds_toArray, List.set_cons_zero, List.set_cons_succ, i64_w, i32_w]
                  rfl
                refine one_ (i := 6) (N := some 57) #[true, true, true, true, true, true, true, false] rfl rfl (by kernel_rfl) (by decide) (fun K hK => ?_)
                refine Kd.R_append_step k37 (w0 := w2) w2.heap.size (by rfl) (.tmp 51) (.tmp 56) 25 37 (.agg #[(.string ⟨#[]⟩), (.string ⟨#[]⟩)]) 32 rfl Try.underlying25 info37 rfl (by decide) (by omega) (.slice Ao k co) ((rs.take k).map (rowOut l0.length)) (rowOut l0.length x) [.string ⟨((x.1.map markB).take l0.length).toArray⟩, .string x.2] (fun _ => True) (fun _ => False) rfl rfl ?aP (fun _ hk => hk.elim) ?aF ?aO ?aB ?aS ?aL ?_
                (case aP => exact k37_mkM _ _ _ (rowOut l0.length x))
                (case aF => exact (fun _ _ => trivial))
                (case aO => exact (by (with_reducible repeat (first | apply Kd.R_alloc | apply Kd.R_drewN | apply Kd.R_drew)); exact HO8.out))
                (case aB => exact (by repeat (first | (with_reducible first | exact HD8.out | apply below_alloc | apply pw_below_drewN | apply below_drew1) | exact HD8.out)))
                (case aS => exact (below_size (by repeat (first | (with_reducible first | exact HD8.out | apply below_alloc | apply pw_below_drewN | apply below_drew1) | exact HD8.out))))
                (case aL => rw [HNO.out]; omega)
                intro v9 w9 ho9 hb9 hg9 hat9
                have HO9 := Aside0.mk ho9
                have HB9 := Aside0.mk hb9
                have x9 : w9.cell? ⟨wq.heap.size, 16, none⟩ = some (.string x.2) := cell_blk ((hg9.block _ (blk_lt HX8.out) (Kd.R_ne HO8.out HX8.out (by decide))).trans HX8.out) h16c
                clear ho9 hb9 hg9 hat9
                refine hK.out _ _ (x9) (fun hHeld => ?_)
                clear hK K
                refine norm_ (a' := ?_) ?_ ?_
                rotate_left
                · show Act.put _ (some 57) _ = _
                  simp only [Act.put, List.setIfInBounds_toArray, List.set_cons_zero, List.set_cons_succ, i64_w, i32_w]
                  rfl
                refine pure_ (i := 7) (N := some 5) (v := ?_) (a' := ?_) #[true, true, true, true, true, true, true, true] rfl rfl (by kernel_rfl) (fun _ _ _ h => h) (Or.inl ⟨by rfl, ?_⟩) ?_ ?_
                rotate_left
                · intro w'
                  go_simp
                  with_reducible rfl
                rotate_left
                · simp only [Act.put, List.setIfInBounds_toArray, List.set_cons_zero, List.set_cons_succ, i64_w, i32_w]
                  rfl
                refine done_ (by kernel_rfl) ?_

                go_wp2
                go_roundw
                case measure => simp [intOf]; omega
                case rel => exact ⟨k + 1, by omega, by go_num, ⟨by rw [HTK.out, List.map_append]; exact HO9.out⟩, HB9⟩
          · have hk' : k = rs.length := by omega
            subst hk'
            rw [List.take_length] at HO
            go_wp2
            go_ret2
            exact ⟨_, rfl, Kd.R_lower HO.out HB.out.size, HB.out.trans (HBr.out.mono HB.out.size)⟩
      · rw [if_pos he] at HG
        obtain ⟨rfl, rfl⟩ := Prod.mk.inj HG.out
        clear HG H
        go_wp2
        refine start_ (n := 6) (S := fun w' => w'.cell? ⟨w.heap.size, 1, none⟩ = some (.int .i64 r2)) (ds := []) #[false, false, false, false, false, false] (by kernel_rfl) rfl rfl (cg1) (fun hHeld => ?_)
        refine pure_ (i := 0) (N := some 25) (v := ?_) (a' := ?_) #[true, false, false, false, false, false] rfl rfl (by kernel_rfl) (fun _ _ _ h => h) (Or.inl ⟨by rfl, ?_⟩) ?_ ?_
        rotate_left
        · intro w'
          go_simp
          with_reducible rfl
        rotate_left
        · simp only [Act.put, List.setIfInBounds_toArray, List.set_cons_zero, List.set_cons_succ, i64_w, i32_w]
          rfl
        refine pure_ (i := 1) (N := some 26) (v := ?_) (a' := ?_) #[true, true, false, false, false, false] rfl rfl (by kernel_rfl) (fun _ _ _ h => h) (Or.inl ⟨by rfl, ?_⟩) ?_ ?_
        rotate_left
        · intro w'
          go_simp
          with_reducible rfl
        rotate_left
        · simp only [Act.put, List.setIfInBounds_toArray, List.set_cons_zero, List.set_cons_succ, i64_w, i32_w]
          rfl
        refine pure_ (i := 2) (N := some 27) (v := ?_) (a' := ?_) #[true, true, true, false, false, false] rfl rfl (by kernel_rfl) (fun _ _ _ h => h) (Or.inl ⟨by rfl, ?_⟩) ?_ ?_
        rotate_left
        · intro w'
          go_simp
          with_reducible rfl
        rotate_left
        · simp only [Act.put, List.setIfInBounds_toArray, List.set_cons_zero, List.set_cons_succ, i64_w, i32_w]
          rfl
        refine pure_ (i := 4) (N := some 2) (v := ?_) (a' := ?_) #[true, true, true, false, true, false] rfl rfl (by kernel_rfl) (fun _ _ _ h => h) (Or.inl ⟨by rfl, ?_⟩) ?_ ?_
        rotate_left
        · intro w'
          go_simp
          with_reducible rfl
        rotate_left
        · simp only [Act.put, List.setIfInBounds_toArray, List.set_cons_zero, List.set_cons_succ, i64_w, i32_w]
          rfl
        refine take_ (i := 3) (N := some 28) (v := ?_) (a' := ?_) #[true, true, true, true, true, false] rfl rfl (by kernel_rfl) (fun _ _ _ h => h) (Or.inl ⟨by rfl, ?_⟩) hHeld ?_ ?_
        rotate_left
        · intro w' s0
          go_simp
          with_reducible rfl
        rotate_left
        · simp only [Act.put, List.setIfInBounds_toArray, List.set_cons_zero, List.set_cons_succ, i64_w, i32_w]
          rfl
        refine pure_ (i := 5) (N := some 3) (v := ?_) (a' := ?_) #[true, true, true, true, true, true] rfl rfl (by kernel_rfl) (fun _ _ _ h => h) (Or.inl ⟨by rfl, ?_⟩) ?_ ?_
        rotate_left
        · intro w'
          go_simp
          with_reducible rfl
        rotate_left
        · simp only [Act.put, List.setIfInBounds_toArray, List.set_cons_zero, List.set_cons_succ, i64_w, i32_w]
          rfl
        refine done_ (by kernel_rfl) ?_

        go_wp2
        go_ret2
        exact ⟨_, rfl, Kd.R_nil _ _ _ _ _, HB.out.drew⟩
  · cases h
end Go.Proofs.Ytnlekganlliikaa.X
-- part XGn1
namespace Go.Proofs.Ytnlekganlliikaa.X
open Go.RowKit Go.Proofs.YtnlekganlliikaaW.PrintWords Go.Proofs.YtnlekganlliikaaW.PrintLast Go.Proofs.YtnlekganlliikaaW.PrintMore
attribute [local go_sem] max2_int min2_int max_two min_two max_three min_three max_four min_four   -- for this text's walks alone
set_option linter.unusedVariables false
set_option linter.unusedSimpArgs false
attribute [local go_sem high] eqA37
def sennitlaw19_awake.f  : Option (Bool) := (gap_Coalesce.f (([(([(⟨#[97]⟩ : ByteArray), (⟨#[98]⟩ : ByteArray)] : List ByteArray)), (([(⟨#[98]⟩ : ByteArray), (⟨#[99]⟩ : ByteArray)] : List ByteArray))] : List (List ByteArray)))).bind fun bt110 => (if 17 ≤ 11728124029610 then ((gap_Coalesce.f (List.replicate 17 [])).bind fun bt117 => (if bt110.2 = 0 then (if bt117.2 = 1 then (if (bt110.1.length : Int) = 3 then (if 0 < (bt110.1.length : Int) then (if ((((rd_T37 bt110.1 0).f0).toList) == ([45, 32] : List UInt8) && ((((rd_T37 bt110.1 0).f1).toList) == ([97] : List UInt8))) = true then (if 1 < (bt110.1.length : Int) then (if ((((rd_T37 bt110.1 1).f0).toList) == ([45, 45] : List UInt8) && ((((rd_T37 bt110.1 1).f1).toList) == ([98] : List UInt8))) = true then (if 2 < (bt110.1.length : Int) then (some ((((rd_T37 bt110.1 2).f0).toList) == ([32, 45] : List UInt8) && ((((rd_T37 bt110.1 2).f1).toList) == ([99] : List UInt8)))) else (none)) else (some false)) else (none)) else (some false)) else (none)) else (some false)) else (some false)) else (some false))) else (none))
set_option maxHeartbeats 8000000 in
set_option maxRecDepth 100000 in
theorem sennitlaw19_awake.calls  (r : Bool) (w : World) (h : sennitlaw19_awake.f  = some r) :
    Calls Try.prog 15 #[] w fun e w' => e = .returned (.bool r) ∧ Below w.heap.size w w' := by
  have hu37 := Try.underlying37
  have HB := Aside0.mk (Below.refl w.heap.size w)
  have H : ((gap_Coalesce.f (([(([(⟨#[97]⟩ : ByteArray), (⟨#[98]⟩ : ByteArray)] : List ByteArray)), (([(⟨#[98]⟩ : ByteArray), (⟨#[99]⟩ : ByteArray)] : List ByteArray))] : List (List ByteArray)))).bind fun bt110 => (if 17 ≤ 11728124029610 then ((gap_Coalesce.f (List.replicate 17 [])).bind fun bt117 => (if bt110.2 = 0 then (if bt117.2 = 1 then (if (bt110.1.length : Int) = 3 then (if 0 < (bt110.1.length : Int) then (if ((((rd_T37 bt110.1 0).f0).toList) == ([45, 32] : List UInt8) && ((((rd_T37 bt110.1 0).f1).toList) == ([97] : List UInt8))) = true then (if 1 < (bt110.1.length : Int) then (if ((((rd_T37 bt110.1 1).f0).toList) == ([45, 45] : List UInt8) && ((((rd_T37 bt110.1 1).f1).toList) == ([98] : List UInt8))) = true then (if 2 < (bt110.1.length : Int) then (some ((((rd_T37 bt110.1 2).f0).toList) == ([32, 45] : List UInt8) && ((((rd_T37 bt110.1 2).f1).toList) == ([99] : List UInt8)))) else (none)) else (some false)) else (none)) else (some false)) else (none)) else (some false)) else (some false)) else (some false))) else (none))) = some r := h
  clear h
  obtain ⟨y101, hy101⟩ : ∃ y_ : List ByteArray, y_ = (([(⟨#[97]⟩ : ByteArray), (⟨#[98]⟩ : ByteArray)] : List ByteArray)) := ⟨_, rfl⟩
  replace H : ((gap_Coalesce.f (([y101, (([(⟨#[98]⟩ : ByteArray), (⟨#[99]⟩ : ByteArray)] : List ByteArray))] : List (List ByteArray)))).bind fun bt110 => (if 17 ≤ 11728124029610 then ((gap_Coalesce.f (List.replicate 17 [])).bind fun bt117 => (if bt110.2 = 0 then (if bt117.2 = 1 then (if (bt110.1.length : Int) = 3 then (if 0 < (bt110.1.length : Int) then (if ((((rd_T37 bt110.1 0).f0).toList) == ([45, 32] : List UInt8) && ((((rd_T37 bt110.1 0).f1).toList) == ([97] : List UInt8))) = true then (if 1 < (bt110.1.length : Int) then (if ((((rd_T37 bt110.1 1).f0).toList) == ([45, 45] : List UInt8) && ((((rd_T37 bt110.1 1).f1).toList) == ([98] : List UInt8))) = true then (if 2 < (bt110.1.length : Int) then (some ((((rd_T37 bt110.1 2).f0).toList) == ([32, 45] : List UInt8) && ((((rd_T37 bt110.1 2).f1).toList) == ([99] : List UInt8)))) else (none)) else (some false)) else (none)) else (some false)) else (none)) else (some false)) else (some false)) else (some false))) else (none))) = some r := by first | (rw [hy101]; with_reducible exact H) | (have H2_ := (Option.bind_some _ _).symm.trans H; rw [hy101]; with_reducible exact H2_) | (have H2_ := (Option.bind_some _ _).symm.trans H; with_reducible exact H2_) | with_reducible exact H | (rw [hy101]; exact H) | exact H
  have Ny101 := Aside0.mk hy101
  clear hy101
  obtain ⟨y104, hy104⟩ : ∃ y_ : List ByteArray, y_ = (([(⟨#[98]⟩ : ByteArray), (⟨#[99]⟩ : ByteArray)] : List ByteArray)) := ⟨_, rfl⟩
  replace H : ((gap_Coalesce.f (([y101, y104] : List (List ByteArray)))).bind fun bt110 => (if 17 ≤ 11728124029610 then ((gap_Coalesce.f (List.replicate 17 [])).bind fun bt117 => (if bt110.2 = 0 then (if bt117.2 = 1 then (if (bt110.1.length : Int) = 3 then (if 0 < (bt110.1.length : Int) then (if ((((rd_T37 bt110.1 0).f0).toList) == ([45, 32] : List UInt8) && ((((rd_T37 bt110.1 0).f1).toList) == ([97] : List UInt8))) = true then (if 1 < (bt110.1.length : Int) then (if ((((rd_T37 bt110.1 1).f0).toList) == ([45, 45] : List UInt8) && ((((rd_T37 bt110.1 1).f1).toList) == ([98] : List UInt8))) = true then (if 2 < (bt110.1.length : Int) then (some ((((rd_T37 bt110.1 2).f0).toList) == ([32, 45] : List UInt8) && ((((rd_T37 bt110.1 2).f1).toList) == ([99] : List UInt8)))) else (none)) else (some false)) else (none)) else (some false)) else (none)) else (some false)) else (some false)) else (some false))) else (none))) = some r := by first | (rw [hy104]; with_reducible exact H) | (have H2_ := (Option.bind_some _ _).symm.trans H; rw [hy104]; with_reducible exact H2_) | (have H2_ := (Option.bind_some _ _).symm.trans H; with_reducible exact H2_) | with_reducible exact H | (rw [hy104]; exact H) | exact H
  have Ny104 := Aside0.mk hy104
  clear hy104
  obtain ⟨y107, hy107⟩ : ∃ y_ : List (List ByteArray), y_ = (([y101, y104] : List (List ByteArray))) := ⟨_, rfl⟩
  replace H : ((gap_Coalesce.f y107).bind fun bt110 => (if 17 ≤ 11728124029610 then ((gap_Coalesce.f (List.replicate 17 [])).bind fun bt117 => (if bt110.2 = 0 then (if bt117.2 = 1 then (if (bt110.1.length : Int) = 3 then (if 0 < (bt110.1.length : Int) then (if ((((rd_T37 bt110.1 0).f0).toList) == ([45, 32] : List UInt8) && ((((rd_T37 bt110.1 0).f1).toList) == ([97] : List UInt8))) = true then (if 1 < (bt110.1.length : Int) then (if ((((rd_T37 bt110.1 1).f0).toList) == ([45, 45] : List UInt8) && ((((rd_T37 bt110.1 1).f1).toList) == ([98] : List UInt8))) = true then (if 2 < (bt110.1.length : Int) then (some ((((rd_T37 bt110.1 2).f0).toList) == ([32, 45] : List UInt8) && ((((rd_T37 bt110.1 2).f1).toList) == ([99] : List UInt8)))) else (none)) else (some false)) else (none)) else (some false)) else (none)) else (some false)) else (some false)) else (some false))) else (none))) = some r := by first | (rw [hy107]; with_reducible exact H) | (have H2_ := (Option.bind_some _ _).symm.trans H; rw [hy107]; with_reducible exact H2_) | (have H2_ := (Option.bind_some _ _).symm.trans H; with_reducible exact H2_) | with_reducible exact H | (rw [hy107]; exact H) | exact H
  have Ny107 := Aside0.mk hy107
  clear hy107
  replace H := Option.bind_eq_some_iff.mp H
  obtain ⟨⟨t110, t111⟩, A10, H⟩ := H
  replace H : (if 17 ≤ 11728124029610 then ((gap_Coalesce.f (List.replicate 17 [])).bind fun bt117 => (if t111 = 0 then (if bt117.2 = 1 then (if (t110.length : Int) = 3 then (if 0 < (t110.length : Int) then (if ((((rd_T37 t110 0).f0).toList) == ([45, 32] : List UInt8) && ((((rd_T37 t110 0).f1).toList) == ([97] : List UInt8))) = true then (if 1 < (t110.length : Int) then (if ((((rd_T37 t110 1).f0).toList) == ([45, 45] : List UInt8) && ((((rd_T37 t110 1).f1).toList) == ([98] : List UInt8))) = true then (if 2 < (t110.length : Int) then (some ((((rd_T37 t110 2).f0).toList) == ([32, 45] : List UInt8) && ((((rd_T37 t110 2).f1).toList) == ([99] : List UInt8)))) else (none)) else (some false)) else (none)) else (some false)) else (none)) else (some false)) else (some false)) else (some false))) else (none)) = some r := H
  have A1 := Aside0.mk A10
  clear A10
  by_cases c2 : 17 ≤ 11728124029610
  · rw [if_pos c2] at H
    have c2b0 := eq_true c2
    have c2b1 : decide (17 ≤ 11728124029610) = true := decide_eq_true c2
    clear c2
    obtain ⟨y114, hy114⟩ : ∃ y_ : List (List ByteArray), y_ = (List.replicate 17 []) := ⟨_, rfl⟩
    replace H : ((gap_Coalesce.f y114).bind fun bt117 => (if t111 = 0 then (if bt117.2 = 1 then (if (t110.length : Int) = 3 then (if 0 < (t110.length : Int) then (if ((((rd_T37 t110 0).f0).toList) == ([45, 32] : List UInt8) && ((((rd_T37 t110 0).f1).toList) == ([97] : List UInt8))) = true then (if 1 < (t110.length : Int) then (if ((((rd_T37 t110 1).f0).toList) == ([45, 45] : List UInt8) && ((((rd_T37 t110 1).f1).toList) == ([98] : List UInt8))) = true then (if 2 < (t110.length : Int) then (some ((((rd_T37 t110 2).f0).toList) == ([32, 45] : List UInt8) && ((((rd_T37 t110 2).f1).toList) == ([99] : List UInt8)))) else (none)) else (some false)) else (none)) else (some false)) else (none)) else (some false)) else (some false)) else (some false))) = some r := by first | (rw [hy114]; with_reducible exact H) | (have H2_ := (Option.bind_some _ _).symm.trans H; rw [hy114]; with_reducible exact H2_) | (have H2_ := (Option.bind_some _ _).symm.trans H; with_reducible exact H2_) | with_reducible exact H | (rw [hy114]; exact H) | exact H
    have Ny114 := Aside0.mk hy114
    clear hy114
    replace H := Option.bind_eq_some_iff.mp H
    obtain ⟨⟨t117, t118⟩, A30, H⟩ := H
    replace H : (if t111 = 0 then (if t118 = 1 then (if (t110.length : Int) = 3 then (if 0 < (t110.length : Int) then (if ((((rd_T37 t110 0).f0).toList) == ([45, 32] : List UInt8) && ((((rd_T37 t110 0).f1).toList) == ([97] : List UInt8))) = true then (if 1 < (t110.length : Int) then (if ((((rd_T37 t110 1).f0).toList) == ([45, 45] : List UInt8) && ((((rd_T37 t110 1).f1).toList) == ([98] : List UInt8))) = true then (if 2 < (t110.length : Int) then (some ((((rd_T37 t110 2).f0).toList) == ([32, 45] : List UInt8) && ((((rd_T37 t110 2).f1).toList) == ([99] : List UInt8)))) else (none)) else (some false)) else (none)) else (some false)) else (none)) else (some false)) else (some false)) else (some false)) = some r := H
    have A3 := Aside0.mk A30
    clear A30
    by_cases c4 : t111 = 0
    · rw [if_pos c4] at H
      have c4b0 : (t111 == 0) = true := beq_iff_eq.mpr c4
      have c4b1 : (t111 != 0) = false := bne_eq_false_iff_eq.mpr c4
      clear c4
      by_cases c5 : t118 = 1
      · rw [if_pos c5] at H
        have c5b0 : (t118 == 1) = true := beq_iff_eq.mpr c5
        have c5b1 : (t118 != 1) = false := bne_eq_false_iff_eq.mpr c5
        clear c5
        by_cases c6 : (t110.length : Int) = 3
        · rw [if_pos c6] at H
          have c6b0 : ((t110.length : Int) == 3) = true := beq_iff_eq.mpr c6
          have c6b1 : ((t110.length : Int) != 3) = false := bne_eq_false_iff_eq.mpr c6
          clear c6
          by_cases c7 : 0 < (t110.length : Int)
          · rw [if_pos c7] at H
            have c7b0 : decide (0 < (t110.length : Int)) = true := decide_eq_true c7
            have c7b1 : decide (0 < t110.length) = true := decide_eq_true (by omega)
            clear c7
            by_cases c8 : ((((rd_T37 t110 0).f0).toList) == ([45, 32] : List UInt8) && ((((rd_T37 t110 0).f1).toList) == ([97] : List UInt8))) = true
            · rw [if_pos c8] at H
              have c8b0 : ((((rd_T37 t110 0).f0).toList) == ([45, 32] : List UInt8) && ((((rd_T37 t110 0).f1).toList) == ([97] : List UInt8))) = true := c8
              (try (have c8b1 : decide ((((rd_T37 t110 0).f0).toList) = ([45, 32] : List UInt8) && ((((rd_T37 t110 0).f1).toList) == ([97] : List UInt8))) = true := by simpa using c8))
              (try (have c8b2 : ((((rd_T37 t110 0).f0).toList) == ([45, 32] : List UInt8) && ((((rd_T37 t110 0).f1).toList) == ([97] : List UInt8))) = true := by simpa using c8))
              clear c8
              by_cases c9 : 1 < (t110.length : Int)
              · rw [if_pos c9] at H
                have c9b0 : decide (1 < (t110.length : Int)) = true := decide_eq_true c9
                have c9b1 : decide (1 < t110.length) = true := decide_eq_true (by omega)
                clear c9
                by_cases c10 : ((((rd_T37 t110 1).f0).toList) == ([45, 45] : List UInt8) && ((((rd_T37 t110 1).f1).toList) == ([98] : List UInt8))) = true
                · rw [if_pos c10] at H
                  have c10b0 : ((((rd_T37 t110 1).f0).toList) == ([45, 45] : List UInt8) && ((((rd_T37 t110 1).f1).toList) == ([98] : List UInt8))) = true := c10
                  (try (have c10b1 : decide ((((rd_T37 t110 1).f0).toList) = ([45, 45] : List UInt8) && ((((rd_T37 t110 1).f1).toList) == ([98] : List UInt8))) = true := by simpa using c10))
                  (try (have c10b2 : ((((rd_T37 t110 1).f0).toList) == ([45, 45] : List UInt8) && ((((rd_T37 t110 1).f1).toList) == ([98] : List UInt8))) = true := by simpa using c10))
                  clear c10
                  by_cases c11 : 2 < (t110.length : Int)
                  · rw [if_pos c11] at H
                    have c11b0 : decide (2 < (t110.length : Int)) = true := decide_eq_true c11
                    have c11b1 : decide (2 < t110.length) = true := decide_eq_true (by omega)
                    clear c11
                    obtain rfl := Option.some.inj H
                    go_enter Try.func15, Try.ntmps15
                    go_wp2_with (first | ((with_reducible refine gate_dst (N := 6) rfl ?_); (try (refine gate_guard (by rfl) ?_; dsimp only)); refine Kd.R_lit Kd.string _ 9 ?hg (N := 6) ?hd (xs := ([(⟨#[97]⟩ : ByteArray), (⟨#[98]⟩ : ByteArray)] : List ByteArray)) (inner := [.string (⟨#[97]⟩ : ByteArray), .string (⟨#[98]⟩ : ByteArray)]) (ok := fun _ => True) (okp := fun _ => True) ?hr ?hp (fun _ hk => hk) trivial (Below.refl _ _) (Nat.le_refl _) (by simp) ?_; (case hd => rfl); (case hg => rfl); (case hr => first | (go_simp; done) | (go_simp; rfl)); (case hp => exact (Reps.one (show Kd.M Kd.string _ _ _ (⟨#[97]⟩ : ByteArray) [.string (⟨#[97]⟩ : ByteArray)] from rfl) (Reps.one (show Kd.M Kd.string _ _ _ (⟨#[98]⟩ : ByteArray) [.string (⟨#[98]⟩ : ByteArray)] from rfl) (Reps.none _ _)))); intro v102 w12 ho13 hb hg_ hnew_; clear hg_ hnew_; (first | rw [← Ny101.out] at ho13 | (simp only [Int.reduceToNat] at ho13; rw [← Ny101.out] at ho13)); have n0_ := Aside0.mk (Kd.R_lower ho13 (below_size (by repeat (first | (with_reducible first | exact HB.out | apply below_alloc | apply pw_below_drewN | apply below_drew1) | exact HB.out)))); have n1_ := Aside0.mk (below_step (by repeat (first | (with_reducible first | exact HB.out | apply below_alloc | apply pw_below_drewN | apply below_drew1) | exact HB.out)) hb); clear HB; have HO103 := n0_; have HB := n1_; clear n0_ n1_; clear hb ho13) | ((with_reducible refine gate_dst (N := 7) rfl ?_); (try (refine gate_guard (by rfl) ?_; dsimp only)); refine Kd.R_lit Kd.string _ 9 ?hg (N := 7) ?hd (xs := ([(⟨#[98]⟩ : ByteArray), (⟨#[99]⟩ : ByteArray)] : List ByteArray)) (inner := [.string (⟨#[98]⟩ : ByteArray), .string (⟨#[99]⟩ : ByteArray)]) (ok := fun _ => True) (okp := fun _ => True) ?hr ?hp (fun _ hk => hk) trivial (Below.refl _ _) (Nat.le_refl _) (by simp) ?_; (case hd => rfl); (case hg => rfl); (case hr => first | (go_simp; done) | (go_simp; rfl)); (case hp => exact (Reps.one (show Kd.M Kd.string _ _ _ (⟨#[98]⟩ : ByteArray) [.string (⟨#[98]⟩ : ByteArray)] from rfl) (Reps.one (show Kd.M Kd.string _ _ _ (⟨#[99]⟩ : ByteArray) [.string (⟨#[99]⟩ : ByteArray)] from rfl) (Reps.none _ _)))); intro v105 w14 ho15 hb hg_ hnew_; clear hg_ hnew_; (first | rw [← Ny104.out] at ho15 | (simp only [Int.reduceToNat] at ho15; rw [← Ny104.out] at ho15)); have n0_ := Aside0.mk (Kd.R_elder' (by (with_reducible repeat (first | apply Kd.R_alloc | apply Kd.R_drewN | apply Kd.R_drew)); exact HO103.out) (Kd.R_base ho15) hb); have n1_ := Aside0.mk (Kd.R_lower (Kd.R_new' ho15 (Kd.R_lt (by (with_reducible repeat (first | apply Kd.R_alloc | apply Kd.R_drewN | apply Kd.R_drew)); exact HO103.out))) (below_size (by repeat (first | (with_reducible first | exact HB.out | apply below_alloc | apply pw_below_drewN | apply below_drew1) | exact HB.out)))); have n2_ := Aside0.mk (below_step (by repeat (first | (with_reducible first | exact HB.out | apply below_alloc | apply pw_below_drewN | apply below_drew1) | exact HB.out)) hb); clear HO103; clear HB; have HO103 := n0_; have HO106 := n1_; have HB := n2_; clear n0_ n1_ n2_; clear hb ho15; obtain ⟨Ao16, co16, eo16⟩ := Kd.R_slice HO103.out; subst eo16; obtain ⟨Ao17, co17, eo17⟩ := Kd.R_slice HO106.out; subst eo17) | ((with_reducible refine gate_dst (N := 8) rfl ?_); (try (refine gate_guard (by rfl) ?_; dsimp only)); refine Kd.N_lit (Kd.slice 9 Kd.string) _ 34 ?hg (N' := 8) ?hd (xs := ([y101, y104] : List (List ByteArray))) (inner := [.slice Ao16 y101.length co16, .slice Ao17 y104.length co17]) (ok := (fun _ => True)) (okp := (fun _ => True)) ?hr ?hp (fun _ hk => hk) ((show ∀ k_, w14.heap.size ≤ k_ → (fun _ => True) k_ from fun k_ hk => trivial) _ (Nat.le_refl _)) (Below.refl _ _) (Nat.le_refl _) (by simp) ?_; (case hd => rfl); (case hg => rfl); (case hr => first | (go_simp; done) | (go_simp; rfl)); (case hp => exact (Reps.one (show Kd.FK (Kd.slice 9 Kd.string) _ _ y101 [.slice Ao16 y101.length co16] from (Kd.FK_slice_mk (Kd.R_reads' (Kd.R_mono (ok' := (fun _ => True)) (HO103.out) (fun k_ hk => trivial))).2.1 (Kd.R_F (Kd.R_mono (ok' := (fun _ => True)) (HO103.out) (fun k_ hk => trivial))))) (Reps.one (show Kd.FK (Kd.slice 9 Kd.string) _ _ y104 [.slice Ao17 y104.length co17] from (Kd.FK_slice_mk (Kd.R_reads' (Kd.R_mono (ok' := (fun _ => True)) (HO106.out) (fun k_ hk => trivial))).2.1 (Kd.R_F (Kd.R_mono (ok' := (fun _ => True)) (HO106.out) (fun k_ hk => trivial))))) (Reps.none _ _)))); intro v108 w18 ho19 hb hg_ hnew_; clear hg_ hnew_; (first | rw [← Ny107.out] at ho19 | (simp only [Int.reduceToNat] at ho19; rw [← Ny107.out] at ho19)); have n0_ := Aside0.mk (Kd.N_lower ho19 (below_size (by repeat (first | (with_reducible first | exact HB.out | apply below_alloc | apply pw_below_drewN | apply below_drew1) | exact HB.out)))); have n1_ := Aside0.mk (below_step (by repeat (first | (with_reducible first | exact HB.out | apply below_alloc | apply pw_below_drewN | apply below_drew1) | exact HB.out)) hb); clear HB; clear HO103; clear HO106; have HO109 := n0_; have HB := n1_; clear n0_ n1_; clear hb ho19; obtain ⟨Ao20, co20, eo20⟩ := Kd.N_slice HO109.out; subst eo20) | ((with_reducible refine gate_callee (f := 17) rfl ?_); refine goesL_ (some 9) rfl rfl Try.func17 (by kernel_rfl) rfl #[.slice Ao20 y107.length co20] rfl (by (try simp only [List.map_toArray, List.map_cons, List.map_nil]); first | done | rfl | (simp only [List.length_drop, List.length_take]; rfl)) ?_; (with_reducible refine (gap_Coalesce.calls _ _ y107 t110 t111 _ ?side1 ?side2 A1.out).mono ?_); (case side1 => repeat (first | exact (Kd.N_reads' HO109.out).2.2 | (with_reducible refine Kd.C_alloc ?_ _) | (with_reducible refine Kd.C_drewN ?_ _) | (with_reducible refine Kd.C_drew ?_))); (case side2 => exact (Kd.N_reads' HO109.out).2.1); rintro e w21 ⟨v112, rfl, ho0, hb⟩; refine ⟨_, rfl, ?_⟩; have n0_ := Aside0.mk (Kd.N_elder' (by (with_reducible repeat (first | apply Kd.N_alloc | apply Kd.N_drewN | apply Kd.N_drew)); exact HO109.out) (Kd.R_base ho0) hb); have n1_ := Aside0.mk (Kd.R_lower ho0 (below_size (by repeat (first | (with_reducible first | exact HB.out | apply below_alloc | apply pw_below_drewN | apply below_drew1) | exact HB.out)))); have n2_ := Aside0.mk (below_step (by repeat (first | (with_reducible first | exact HB.out | apply below_alloc | apply pw_below_drewN | apply below_drew1) | exact HB.out)) hb); clear HO109; clear HB; have HO109 := n0_; have HO113 := n1_; have HB := n2_; clear n0_ n1_ n2_; (try clear hb); (try clear hb2); (try clear hk); (try clear hi); (try clear ho0)) | ((with_reducible refine gate_dst (N := 13) rfl ?_); (try (refine gate_guard (by rfl) ?_; dsimp only)); refine Kd.N_make (Kd.slice 9 Kd.string) _ 34 rfl (N' := 13) rfl 22 _ _ rfl 17 rfl rfl Try.underlying22 (.slice none 0 0) 24 info34 rfl (by decide) (by omega) [] (ok := fun k_ => w21.heap.size ≤ k_) (okp := fun _ => False) (Kd.FK_slice_mk (Nat.le_refl _) (Kd.F_nil _ _ _)) (fun _ hk => hk.elim) (Nat.le_refl _) (by omega) (by omega) (Below.refl _ _) (Nat.le_refl _) ?_; intro v115 w22 ho23 hb hg_ hnew_; clear hg_ hnew_; (first | rw [← Ny114.out] at ho23 | (simp only [Int.reduceToNat] at ho23; rw [← Ny114.out] at ho23)); have n0_ := Aside0.mk (Kd.N_elder' (by (with_reducible repeat (first | apply Kd.N_alloc | apply Kd.N_drewN | apply Kd.N_drew)); exact HO109.out) (Kd.N_base ho23) hb); have n1_ := Aside0.mk (Kd.R_below (by (with_reducible repeat (first | apply Kd.R_alloc | apply Kd.R_drewN | apply Kd.R_drew)); exact HO113.out) hb); have n2_ := Aside0.mk (Kd.N_lower (Kd.N_mono (ok' := fun k_ => some k_ ≠ (.slice Ao20 y107.length co20 : Value).ownBlock ∧ some k_ ≠ (v112 : Value).ownBlock) ho23 (fun k_ hk_ => ⟨(Kd.fresh' (Kd.N_lt (by (with_reducible repeat (first | apply Kd.N_alloc | apply Kd.N_drewN | apply Kd.N_drew)); exact HO109.out)) k_ hk_), (Kd.fresh' (Kd.R_lt (by (with_reducible repeat (first | apply Kd.R_alloc | apply Kd.R_drewN | apply Kd.R_drew)); exact HO113.out)) k_ hk_)⟩)) (below_size (by repeat (first | (with_reducible first | exact HB.out | apply below_alloc | apply pw_below_drewN | apply below_drew1) | exact HB.out)))); have n3_ := Aside0.mk (below_step (by repeat (first | (with_reducible first | exact HB.out | apply below_alloc | apply pw_below_drewN | apply below_drew1) | exact HB.out)) hb); clear HO109; clear HO113; clear HB; have HO109 := n0_; have HO113 := n1_; have HO116 := n2_; have HB := n3_; clear n0_ n1_ n2_ n3_; clear hb ho23; obtain ⟨Ao24, co24, eo24⟩ := Kd.N_slice HO116.out; subst eo24) | ((with_reducible refine gate_callee (f := 17) rfl ?_); refine goesL_ (some 14) rfl rfl Try.func17 (by kernel_rfl) rfl #[.slice Ao24 y114.length co24] rfl (by (try simp only [List.map_toArray, List.map_cons, List.map_nil]); first | done | rfl | (simp only [List.length_drop, List.length_take]; rfl)) ?_; (with_reducible refine (gap_Coalesce.calls _ _ y114 t117 t118 _ ?side1 ?side2 A3.out).mono ?_); (case side1 => repeat (first | exact (Kd.N_reads' HO116.out).2.2 | (with_reducible refine Kd.C_alloc ?_ _) | (with_reducible refine Kd.C_drewN ?_ _) | (with_reducible refine Kd.C_drew ?_))); (case side2 => exact (Kd.N_reads' HO116.out).2.1); rintro e w25 ⟨v119, rfl, ho0, hb⟩; refine ⟨_, rfl, ?_⟩; have n0_ := Aside0.mk (Kd.N_elder' (by (with_reducible repeat (first | apply Kd.N_alloc | apply Kd.N_drewN | apply Kd.N_drew)); exact HO109.out) (Kd.R_base ho0) hb); have n1_ := Aside0.mk (Kd.R_elder' (by (with_reducible repeat (first | apply Kd.R_alloc | apply Kd.R_drewN | apply Kd.R_drew)); exact HO113.out) (Kd.R_base ho0) hb); have n2_ := Aside0.mk (Kd.N_elder' (by (with_reducible repeat (first | apply Kd.N_alloc | apply Kd.N_drewN | apply Kd.N_drew)); exact HO116.out) (Kd.R_base ho0) hb); have n3_ := Aside0.mk (Kd.R_lower (Kd.R_new' ho0 (Kd.R_lt (by (with_reducible repeat (first | apply Kd.R_alloc | apply Kd.R_drewN | apply Kd.R_drew)); exact HO113.out))) (below_size (by repeat (first | (with_reducible first | exact HB.out | apply below_alloc | apply pw_below_drewN | apply below_drew1) | exact HB.out)))); have n4_ := Aside0.mk (below_step (by repeat (first | (with_reducible first | exact HB.out | apply below_alloc | apply pw_below_drewN | apply below_drew1) | exact HB.out)) hb); clear HO109; clear HO113; clear HO116; clear HB; have HO109 := n0_; have HO113 := n1_; have HO116 := n2_; have HO120 := n3_; have HB := n4_; clear n0_ n1_ n2_ n3_ n4_; (try clear hb); (try clear hb2); (try clear hk); (try clear hi); (try clear ho0); obtain ⟨Ao26, co26, eo26⟩ := Kd.R_slice HO113.out; subst eo26; have p121 : 0 ≤ (0 : Int) := (by omega); have q121 : 0 < (t110.length : Int) := of_decide_eq_true (by first | (with_reducible assumption) | assumption); obtain ⟨ad121, e121, hx121_0, hx121_1⟩ := at_T37 (Kd.R_reads' HO113.out).2.2 0 p121 q121; cases e121; have qi121 : (0 < t110.length) = True := eq_true (by omega); (try rw [show ((0 : Int)).toNat = 0 from rfl] at hx121_0); (try rw [show 0 * 2 = 0 from rfl] at hx121_0); (try rw [Addr.add_zero'] at hx121_0); (try rw [show ((0 : Int)).toNat = 0 from rfl] at hx121_1); (try rw [show 0 * 2 = 0 from rfl] at hx121_1); (try rw [Addr.add_zero'] at hx121_1); replace p121 := eq_true p121; replace q121 := eq_true q121; have p122 : 0 ≤ (1 : Int) := (by omega); have q122 : 1 < (t110.length : Int) := of_decide_eq_true (by first | (with_reducible assumption) | assumption); obtain ⟨ad122, e122, hx122_0, hx122_1⟩ := at_T37 (Kd.R_reads' HO113.out).2.2 1 p122 q122; obtain rfl : ad121 = ad122 := (by injection e122); (try simp only [show (1 : Int).toNat = 1 from rfl, Nat.reduceMul, Nat.reduceEqDiff, Go.Addr.add, ↓reduceIte] at hx122_0); (try simp only [show (1 : Int).toNat = 1 from rfl, Nat.reduceMul, Nat.reduceEqDiff, Go.Addr.add, ↓reduceIte] at hx122_1); have qi122 : (1 < t110.length) = True := eq_true (by omega); (try rw [show ((1 : Int)).toNat = 1 from rfl] at hx122_0); (try rw [show 1 * 2 = 2 from rfl] at hx122_0); (try rw [show ((1 : Int)).toNat = 1 from rfl] at hx122_1); (try rw [show 1 * 2 = 2 from rfl] at hx122_1); replace p122 := eq_true p122; replace q122 := eq_true q122; have p123 : 0 ≤ (2 : Int) := (by omega); have q123 : 2 < (t110.length : Int) := of_decide_eq_true (by first | (with_reducible assumption) | assumption); obtain ⟨ad123, e123, hx123_0, hx123_1⟩ := at_T37 (Kd.R_reads' HO113.out).2.2 2 p123 q123; obtain rfl : ad121 = ad123 := (by injection e123); (try simp only [show (2 : Int).toNat = 2 from rfl, Nat.reduceMul, Nat.reduceEqDiff, Go.Addr.add, ↓reduceIte] at hx123_0); (try simp only [show (2 : Int).toNat = 2 from rfl, Nat.reduceMul, Nat.reduceEqDiff, Go.Addr.add, ↓reduceIte] at hx123_1); have qi123 : (2 < t110.length) = True := eq_true (by omega); (try rw [show ((2 : Int)).toNat = 2 from rfl] at hx123_0); (try rw [show 2 * 2 = 4 from rfl] at hx123_0); (try rw [show ((2 : Int)).toNat = 2 from rfl] at hx123_1); (try rw [show 2 * 2 = 4 from rfl] at hx123_1); replace p123 := eq_true p123; replace q123 := eq_true q123))
                    go_ret
                    exact ⟨by first | rfl | (simp [errW_none, errW_some] <;> rfl) | (simp [*, errW_none, errW_some] <;> rfl), by repeat (first | (with_reducible first | exact HB.out | apply below_alloc | apply pw_below_drewN | apply below_drew1) | exact HB.out)⟩
                  · rw [if_neg c11] at H
                    exact absurd H (by simp)
                · rw [if_neg c10] at H
                  have c10b0 : ((((rd_T37 t110 1).f0).toList) == ([45, 45] : List UInt8) && ((((rd_T37 t110 1).f1).toList) == ([98] : List UInt8))) = false := by simpa using c10
                  (try (have c10b1 : decide ((((rd_T37 t110 1).f0).toList) = ([45, 45] : List UInt8) && ((((rd_T37 t110 1).f1).toList) == ([98] : List UInt8))) = false := by simpa using c10))
                  (try (have c10b2 : ((((rd_T37 t110 1).f0).toList) == ([45, 45] : List UInt8) && ((((rd_T37 t110 1).f1).toList) == ([98] : List UInt8))) = false := by simpa using c10))
                  (try (have c10b3 : ¬ ((((rd_T37 t110 1).f0).toList) = ([45, 45] : List UInt8) && ((((rd_T37 t110 1).f1).toList) == ([98] : List UInt8))) := by simpa using c10))
                  clear c10
                  obtain rfl := Option.some.inj H
                  go_enter Try.func15, Try.ntmps15
                  go_wp2_with (first | ((with_reducible refine gate_dst (N := 6) rfl ?_); (try (refine gate_guard (by rfl) ?_; dsimp only)); refine Kd.R_lit Kd.string _ 9 ?hg (N := 6) ?hd (xs := ([(⟨#[97]⟩ : ByteArray), (⟨#[98]⟩ : ByteArray)] : List ByteArray)) (inner := [.string (⟨#[97]⟩ : ByteArray), .string (⟨#[98]⟩ : ByteArray)]) (ok := fun _ => True) (okp := fun _ => True) ?hr ?hp (fun _ hk => hk) trivial (Below.refl _ _) (Nat.le_refl _) (by simp) ?_; (case hd => rfl); (case hg => rfl); (case hr => first | (go_simp; done) | (go_simp; rfl)); (case hp => exact (Reps.one (show Kd.M Kd.string _ _ _ (⟨#[97]⟩ : ByteArray) [.string (⟨#[97]⟩ : ByteArray)] from rfl) (Reps.one (show Kd.M Kd.string _ _ _ (⟨#[98]⟩ : ByteArray) [.string (⟨#[98]⟩ : ByteArray)] from rfl) (Reps.none _ _)))); intro v102 w27 ho28 hb hg_ hnew_; clear hg_ hnew_; (first | rw [← Ny101.out] at ho28 | (simp only [Int.reduceToNat] at ho28; rw [← Ny101.out] at ho28)); have n0_ := Aside0.mk (Kd.R_lower ho28 (below_size (by repeat (first | (with_reducible first | exact HB.out | apply below_alloc | apply pw_below_drewN | apply below_drew1) | exact HB.out)))); have n1_ := Aside0.mk (below_step (by repeat (first | (with_reducible first | exact HB.out | apply below_alloc | apply pw_below_drewN | apply below_drew1) | exact HB.out)) hb); clear HB; have HO103 := n0_; have HB := n1_; clear n0_ n1_; clear hb ho28) | ((with_reducible refine gate_dst (N := 7) rfl ?_); (try (refine gate_guard (by rfl) ?_; dsimp only)); refine Kd.R_lit Kd.string _ 9 ?hg (N := 7) ?hd (xs := ([(⟨#[98]⟩ : ByteArray), (⟨#[99]⟩ : ByteArray)] : List ByteArray)) (inner := [.string (⟨#[98]⟩ : ByteArray), .string (⟨#[99]⟩ : ByteArray)]) (ok := fun _ => True) (okp := fun _ => True) ?hr ?hp (fun _ hk => hk) trivial (Below.refl _ _) (Nat.le_refl _) (by simp) ?_; (case hd => rfl); (case hg => rfl); (case hr => first | (go_simp; done) | (go_simp; rfl)); (case hp => exact (Reps.one (show Kd.M Kd.string _ _ _ (⟨#[98]⟩ : ByteArray) [.string (⟨#[98]⟩ : ByteArray)] from rfl) (Reps.one (show Kd.M Kd.string _ _ _ (⟨#[99]⟩ : ByteArray) [.string (⟨#[99]⟩ : ByteArray)] from rfl) (Reps.none _ _)))); intro v105 w29 ho30 hb hg_ hnew_; clear hg_ hnew_; (first | rw [← Ny104.out] at ho30 | (simp only [Int.reduceToNat] at ho30; rw [← Ny104.out] at ho30)); have n0_ := Aside0.mk (Kd.R_elder' (by (with_reducible repeat (first | apply Kd.R_alloc | apply Kd.R_drewN | apply Kd.R_drew)); exact HO103.out) (Kd.R_base ho30) hb); have n1_ := Aside0.mk (Kd.R_lower (Kd.R_new' ho30 (Kd.R_lt (by (with_reducible repeat (first | apply Kd.R_alloc | apply Kd.R_drewN | apply Kd.R_drew)); exact HO103.out))) (below_size (by repeat (first | (with_reducible first | exact HB.out | apply below_alloc | apply pw_below_drewN | apply below_drew1) | exact HB.out)))); have n2_ := Aside0.mk (below_step (by repeat (first | (with_reducible first | exact HB.out | apply below_alloc | apply pw_below_drewN | apply below_drew1) | exact HB.out)) hb); clear HO103; clear HB; have HO103 := n0_; have HO106 := n1_; have HB := n2_; clear n0_ n1_ n2_; clear hb ho30; obtain ⟨Ao31, co31, eo31⟩ := Kd.R_slice HO103.out; subst eo31; obtain ⟨Ao32, co32, eo32⟩ := Kd.R_slice HO106.out; subst eo32) | ((with_reducible refine gate_dst (N := 8) rfl ?_); (try (refine gate_guard (by rfl) ?_; dsimp only)); refine Kd.N_lit (Kd.slice 9 Kd.string) _ 34 ?hg (N' := 8) ?hd (xs := ([y101, y104] : List (List ByteArray))) (inner := [.slice Ao31 y101.length co31, .slice Ao32 y104.length co32]) (ok := (fun _ => True)) (okp := (fun _ => True)) ?hr ?hp (fun _ hk => hk) ((show ∀ k_, w29.heap.size ≤ k_ → (fun _ => True) k_ from fun k_ hk => trivial) _ (Nat.le_refl _)) (Below.refl _ _) (Nat.le_refl _) (by simp) ?_; (case hd => rfl); (case hg => rfl); (case hr => first | (go_simp; done) | (go_simp; rfl)); (case hp => exact (Reps.one (show Kd.FK (Kd.slice 9 Kd.string) _ _ y101 [.slice Ao31 y101.length co31] from (Kd.FK_slice_mk (Kd.R_reads' (Kd.R_mono (ok' := (fun _ => True)) (HO103.out) (fun k_ hk => trivial))).2.1 (Kd.R_F (Kd.R_mono (ok' := (fun _ => True)) (HO103.out) (fun k_ hk => trivial))))) (Reps.one (show Kd.FK (Kd.slice 9 Kd.string) _ _ y104 [.slice Ao32 y104.length co32] from (Kd.FK_slice_mk (Kd.R_reads' (Kd.R_mono (ok' := (fun _ => True)) (HO106.out) (fun k_ hk => trivial))).2.1 (Kd.R_F (Kd.R_mono (ok' := (fun _ => True)) (HO106.out) (fun k_ hk => trivial))))) (Reps.none _ _)))); intro v108 w33 ho34 hb hg_ hnew_; clear hg_ hnew_; (first | rw [← Ny107.out] at ho34 | (simp only [Int.reduceToNat] at ho34; rw [← Ny107.out] at ho34)); have n0_ := Aside0.mk (Kd.N_lower ho34 (below_size (by repeat (first | (with_reducible first | exact HB.out | apply below_alloc | apply pw_below_drewN | apply below_drew1) | exact HB.out)))); have n1_ := Aside0.mk (below_step (by repeat (first | (with_reducible first | exact HB.out | apply below_alloc | apply pw_below_drewN | apply below_drew1) | exact HB.out)) hb); clear HB; clear HO103; clear HO106; have HO109 := n0_; have HB := n1_; clear n0_ n1_; clear hb ho34; obtain ⟨Ao35, co35, eo35⟩ := Kd.N_slice HO109.out; subst eo35) | ((with_reducible refine gate_callee (f := 17) rfl ?_); refine goesL_ (some 9) rfl rfl Try.func17 (by kernel_rfl) rfl #[.slice Ao35 y107.length co35] rfl (by (try simp only [List.map_toArray, List.map_cons, List.map_nil]); first | done | rfl | (simp only [List.length_drop, List.length_take]; rfl)) ?_; (with_reducible refine (gap_Coalesce.calls _ _ y107 t110 t111 _ ?side1 ?side2 A1.out).mono ?_); (case side1 => repeat (first | exact (Kd.N_reads' HO109.out).2.2 | (with_reducible refine Kd.C_alloc ?_ _) | (with_reducible refine Kd.C_drewN ?_ _) | (with_reducible refine Kd.C_drew ?_))); (case side2 => exact (Kd.N_reads' HO109.out).2.1); rintro e w36 ⟨v112, rfl, ho0, hb⟩; refine ⟨_, rfl, ?_⟩; have n0_ := Aside0.mk (Kd.N_elder' (by (with_reducible repeat (first | apply Kd.N_alloc | apply Kd.N_drewN | apply Kd.N_drew)); exact HO109.out) (Kd.R_base ho0) hb); have n1_ := Aside0.mk (Kd.R_lower ho0 (below_size (by repeat (first | (with_reducible first | exact HB.out | apply below_alloc | apply pw_below_drewN | apply below_drew1) | exact HB.out)))); have n2_ := Aside0.mk (below_step (by repeat (first | (with_reducible first | exact HB.out | apply below_alloc | apply pw_below_drewN | apply below_drew1) | exact HB.out)) hb); clear HO109; clear HB; have HO109 := n0_; have HO113 := n1_; have HB := n2_; clear n0_ n1_ n2_; (try clear hb); (try clear hb2); (try clear hk); (try clear hi); (try clear ho0)) | ((with_reducible refine gate_dst (N := 13) rfl ?_); (try (refine gate_guard (by rfl) ?_; dsimp only)); refine Kd.N_make (Kd.slice 9 Kd.string) _ 34 rfl (N' := 13) rfl 22 _ _ rfl 17 rfl rfl Try.underlying22 (.slice none 0 0) 24 info34 rfl (by decide) (by omega) [] (ok := fun k_ => w36.heap.size ≤ k_) (okp := fun _ => False) (Kd.FK_slice_mk (Nat.le_refl _) (Kd.F_nil _ _ _)) (fun _ hk => hk.elim) (Nat.le_refl _) (by omega) (by omega) (Below.refl _ _) (Nat.le_refl _) ?_; intro v115 w37 ho38 hb hg_ hnew_; clear hg_ hnew_; (first | rw [← Ny114.out] at ho38 | (simp only [Int.reduceToNat] at ho38; rw [← Ny114.out] at ho38)); have n0_ := Aside0.mk (Kd.N_elder' (by (with_reducible repeat (first | apply Kd.N_alloc | apply Kd.N_drewN | apply Kd.N_drew)); exact HO109.out) (Kd.N_base ho38) hb); have n1_ := Aside0.mk (Kd.R_below (by (with_reducible repeat (first | apply Kd.R_alloc | apply Kd.R_drewN | apply Kd.R_drew)); exact HO113.out) hb); have n2_ := Aside0.mk (Kd.N_lower (Kd.N_mono (ok' := fun k_ => some k_ ≠ (.slice Ao35 y107.length co35 : Value).ownBlock ∧ some k_ ≠ (v112 : Value).ownBlock) ho38 (fun k_ hk_ => ⟨(Kd.fresh' (Kd.N_lt (by (with_reducible repeat (first | apply Kd.N_alloc | apply Kd.N_drewN | apply Kd.N_drew)); exact HO109.out)) k_ hk_), (Kd.fresh' (Kd.R_lt (by (with_reducible repeat (first | apply Kd.R_alloc | apply Kd.R_drewN | apply Kd.R_drew)); exact HO113.out)) k_ hk_)⟩)) (below_size (by repeat (first | (with_reducible first | exact HB.out | apply below_alloc | apply pw_below_drewN | apply below_drew1) | exact HB.out)))); have n3_ := Aside0.mk (below_step (by repeat (first | (with_reducible first | exact HB.out | apply below_alloc | apply pw_below_drewN | apply below_drew1) | exact HB.out)) hb); clear HO109; clear HO113; clear HB; have HO109 := n0_; have HO113 := n1_; have HO116 := n2_; have HB := n3_; clear n0_ n1_ n2_ n3_; clear hb ho38; obtain ⟨Ao39, co39, eo39⟩ := Kd.N_slice HO116.out; subst eo39) | ((with_reducible refine gate_callee (f := 17) rfl ?_); refine goesL_ (some 14) rfl rfl Try.func17 (by kernel_rfl) rfl #[.slice Ao39 y114.length co39] rfl (by (try simp only [List.map_toArray, List.map_cons, List.map_nil]); first | done | rfl | (simp only [List.length_drop, List.length_take]; rfl)) ?_; (with_reducible refine (gap_Coalesce.calls _ _ y114 t117 t118 _ ?side1 ?side2 A3.out).mono ?_); (case side1 => repeat (first | exact (Kd.N_reads' HO116.out).2.2 | (with_reducible refine Kd.C_alloc ?_ _) | (with_reducible refine Kd.C_drewN ?_ _) | (with_reducible refine Kd.C_drew ?_))); (case side2 => exact (Kd.N_reads' HO116.out).2.1); rintro e w40 ⟨v119, rfl, ho0, hb⟩; refine ⟨_, rfl, ?_⟩; have n0_ := Aside0.mk (Kd.N_elder' (by (with_reducible repeat (first | apply Kd.N_alloc | apply Kd.N_drewN | apply Kd.N_drew)); exact HO109.out) (Kd.R_base ho0) hb); have n1_ := Aside0.mk (Kd.R_elder' (by (with_reducible repeat (first | apply Kd.R_alloc | apply Kd.R_drewN | apply Kd.R_drew)); exact HO113.out) (Kd.R_base ho0) hb); have n2_ := Aside0.mk (Kd.N_elder' (by (with_reducible repeat (first | apply Kd.N_alloc | apply Kd.N_drewN | apply Kd.N_drew)); exact HO116.out) (Kd.R_base ho0) hb); have n3_ := Aside0.mk (Kd.R_lower (Kd.R_new' ho0 (Kd.R_lt (by (with_reducible repeat (first | apply Kd.R_alloc | apply Kd.R_drewN | apply Kd.R_drew)); exact HO113.out))) (below_size (by repeat (first | (with_reducible first | exact HB.out | apply below_alloc | apply pw_below_drewN | apply below_drew1) | exact HB.out)))); have n4_ := Aside0.mk (below_step (by repeat (first | (with_reducible first | exact HB.out | apply below_alloc | apply pw_below_drewN | apply below_drew1) | exact HB.out)) hb); clear HO109; clear HO113; clear HO116; clear HB; have HO109 := n0_; have HO113 := n1_; have HO116 := n2_; have HO120 := n3_; have HB := n4_; clear n0_ n1_ n2_ n3_ n4_; (try clear hb); (try clear hb2); (try clear hk); (try clear hi); (try clear ho0); obtain ⟨Ao41, co41, eo41⟩ := Kd.R_slice HO113.out; subst eo41; have p121 : 0 ≤ (0 : Int) := (by omega); have q121 : 0 < (t110.length : Int) := of_decide_eq_true (by first | (with_reducible assumption) | assumption); obtain ⟨ad121, e121, hx121_0, hx121_1⟩ := at_T37 (Kd.R_reads' HO113.out).2.2 0 p121 q121; cases e121; have qi121 : (0 < t110.length) = True := eq_true (by omega); (try rw [show ((0 : Int)).toNat = 0 from rfl] at hx121_0); (try rw [show 0 * 2 = 0 from rfl] at hx121_0); (try rw [Addr.add_zero'] at hx121_0); (try rw [show ((0 : Int)).toNat = 0 from rfl] at hx121_1); (try rw [show 0 * 2 = 0 from rfl] at hx121_1); (try rw [Addr.add_zero'] at hx121_1); replace p121 := eq_true p121; replace q121 := eq_true q121; have p122 : 0 ≤ (1 : Int) := (by omega); have q122 : 1 < (t110.length : Int) := of_decide_eq_true (by first | (with_reducible assumption) | assumption); obtain ⟨ad122, e122, hx122_0, hx122_1⟩ := at_T37 (Kd.R_reads' HO113.out).2.2 1 p122 q122; obtain rfl : ad121 = ad122 := (by injection e122); (try simp only [show (1 : Int).toNat = 1 from rfl, Nat.reduceMul, Nat.reduceEqDiff, Go.Addr.add, ↓reduceIte] at hx122_0); (try simp only [show (1 : Int).toNat = 1 from rfl, Nat.reduceMul, Nat.reduceEqDiff, Go.Addr.add, ↓reduceIte] at hx122_1); have qi122 : (1 < t110.length) = True := eq_true (by omega); (try rw [show ((1 : Int)).toNat = 1 from rfl] at hx122_0); (try rw [show 1 * 2 = 2 from rfl] at hx122_0); (try rw [show ((1 : Int)).toNat = 1 from rfl] at hx122_1); (try rw [show 1 * 2 = 2 from rfl] at hx122_1); replace p122 := eq_true p122; replace q122 := eq_true q122))
                  go_ret
                  exact ⟨by first | rfl | (simp [errW_none, errW_some] <;> rfl) | (simp [*, errW_none, errW_some] <;> rfl), by repeat (first | (with_reducible first | exact HB.out | apply below_alloc | apply pw_below_drewN | apply below_drew1) | exact HB.out)⟩
              · rw [if_neg c9] at H
                exact absurd H (by simp)
            · rw [if_neg c8] at H
              have c8b0 : ((((rd_T37 t110 0).f0).toList) == ([45, 32] : List UInt8) && ((((rd_T37 t110 0).f1).toList) == ([97] : List UInt8))) = false := by simpa using c8
              (try (have c8b1 : decide ((((rd_T37 t110 0).f0).toList) = ([45, 32] : List UInt8) && ((((rd_T37 t110 0).f1).toList) == ([97] : List UInt8))) = false := by simpa using c8))
              (try (have c8b2 : ((((rd_T37 t110 0).f0).toList) == ([45, 32] : List UInt8) && ((((rd_T37 t110 0).f1).toList) == ([97] : List UInt8))) = false := by simpa using c8))
              (try (have c8b3 : ¬ ((((rd_T37 t110 0).f0).toList) = ([45, 32] : List UInt8) && ((((rd_T37 t110 0).f1).toList) == ([97] : List UInt8))) := by simpa using c8))
              clear c8
              obtain rfl := Option.some.inj H
              go_enter Try.func15, Try.ntmps15
              go_wp2_with (first | ((with_reducible refine gate_dst (N := 6) rfl ?_); (try (refine gate_guard (by rfl) ?_; dsimp only)); refine Kd.R_lit Kd.string _ 9 ?hg (N := 6) ?hd (xs := ([(⟨#[97]⟩ : ByteArray), (⟨#[98]⟩ : ByteArray)] : List ByteArray)) (inner := [.string (⟨#[97]⟩ : ByteArray), .string (⟨#[98]⟩ : ByteArray)]) (ok := fun _ => True) (okp := fun _ => True) ?hr ?hp (fun _ hk => hk) trivial (Below.refl _ _) (Nat.le_refl _) (by simp) ?_; (case hd => rfl); (case hg => rfl); (case hr => first | (go_simp; done) | (go_simp; rfl)); (case hp => exact (Reps.one (show Kd.M Kd.string _ _ _ (⟨#[97]⟩ : ByteArray) [.string (⟨#[97]⟩ : ByteArray)] from rfl) (Reps.one (show Kd.M Kd.string _ _ _ (⟨#[98]⟩ : ByteArray) [.string (⟨#[98]⟩ : ByteArray)] from rfl) (Reps.none _ _)))); intro v102 w42 ho43 hb hg_ hnew_; clear hg_ hnew_; (first | rw [← Ny101.out] at ho43 | (simp only [Int.reduceToNat] at ho43; rw [← Ny101.out] at ho43)); have n0_ := Aside0.mk (Kd.R_lower ho43 (below_size (by repeat (first | (with_reducible first | exact HB.out | apply below_alloc | apply pw_below_drewN | apply below_drew1) | exact HB.out)))); have n1_ := Aside0.mk (below_step (by repeat (first | (with_reducible first | exact HB.out | apply below_alloc | apply pw_below_drewN | apply below_drew1) | exact HB.out)) hb); clear HB; have HO103 := n0_; have HB := n1_; clear n0_ n1_; clear hb ho43) | ((with_reducible refine gate_dst (N := 7) rfl ?_); (try (refine gate_guard (by rfl) ?_; dsimp only)); refine Kd.R_lit Kd.string _ 9 ?hg (N := 7) ?hd (xs := ([(⟨#[98]⟩ : ByteArray), (⟨#[99]⟩ : ByteArray)] : List ByteArray)) (inner := [.string (⟨#[98]⟩ : ByteArray), .string (⟨#[99]⟩ : ByteArray)]) (ok := fun _ => True) (okp := fun _ => True) ?hr ?hp (fun _ hk => hk) trivial (Below.refl _ _) (Nat.le_refl _) (by simp) ?_; (case hd => rfl); (case hg => rfl); (case hr => first | (go_simp; done) | (go_simp; rfl)); (case hp => exact (Reps.one (show Kd.M Kd.string _ _ _ (⟨#[98]⟩ : ByteArray) [.string (⟨#[98]⟩ : ByteArray)] from rfl) (Reps.one (show Kd.M Kd.string _ _ _ (⟨#[99]⟩ : ByteArray) [.string (⟨#[99]⟩ : ByteArray)] from rfl) (Reps.none _ _)))); intro v105 w44 ho45 hb hg_ hnew_; clear hg_ hnew_; (first | rw [← Ny104.out] at ho45 | (simp only [Int.reduceToNat] at ho45; rw [← Ny104.out] at ho45)); have n0_ := Aside0.mk (Kd.R_elder' (by (with_reducible repeat (first | apply Kd.R_alloc | apply Kd.R_drewN | apply Kd.R_drew)); exact HO103.out) (Kd.R_base ho45) hb); have n1_ := Aside0.mk (Kd.R_lower (Kd.R_new' ho45 (Kd.R_lt (by (with_reducible repeat (first | apply Kd.R_alloc | apply Kd.R_drewN | apply Kd.R_drew)); exact HO103.out))) (below_size (by repeat (first | (with_reducible first | exact HB.out | apply below_alloc | apply pw_below_drewN | apply below_drew1) | exact HB.out)))); have n2_ := Aside0.mk (below_step (by repeat (first | (with_reducible first | exact HB.out | apply below_alloc | apply pw_below_drewN | apply below_drew1) | exact HB.out)) hb); clear HO103; clear HB; have HO103 := n0_; have HO106 := n1_; have HB := n2_; clear n0_ n1_ n2_; clear hb ho45; obtain ⟨Ao46, co46, eo46⟩ := Kd.R_slice HO103.out; subst eo46; obtain ⟨Ao47, co47, eo47⟩ := Kd.R_slice HO106.out; subst eo47) | ((with_reducible refine gate_dst (N := 8) rfl ?_); (try (refine gate_guard (by rfl) ?_; dsimp only)); refine Kd.N_lit (Kd.slice 9 Kd.string) _ 34 ?hg (N' := 8) ?hd (xs := ([y101, y104] : List (List ByteArray))) (inner := [.slice Ao46 y101.length co46, .slice Ao47 y104.length co47]) (ok := (fun _ => True)) (okp := (fun _ => True)) ?hr ?hp (fun _ hk => hk) ((show ∀ k_, w44.heap.size ≤ k_ → (fun _ => True) k_ from fun k_ hk => trivial) _ (Nat.le_refl _)) (Below.refl _ _) (Nat.le_refl _) (by simp) ?_; (case hd => rfl); (case hg => rfl); (case hr => first | (go_simp; done) | (go_simp; rfl)); (case hp => exact (Reps.one (show Kd.FK (Kd.slice 9 Kd.string) _ _ y101 [.slice Ao46 y101.length co46] from (Kd.FK_slice_mk (Kd.R_reads' (Kd.R_mono (ok' := (fun _ => True)) (HO103.out) (fun k_ hk => trivial))).2.1 (Kd.R_F (Kd.R_mono (ok' := (fun _ => True)) (HO103.out) (fun k_ hk => trivial))))) (Reps.one (show Kd.FK (Kd.slice 9 Kd.string) _ _ y104 [.slice Ao47 y104.length co47] from (Kd.FK_slice_mk (Kd.R_reads' (Kd.R_mono (ok' := (fun _ => True)) (HO106.out) (fun k_ hk => trivial))).2.1 (Kd.R_F (Kd.R_mono (ok' := (fun _ => True)) (HO106.out) (fun k_ hk => trivial))))) (Reps.none _ _)))); intro v108 w48 ho49 hb hg_ hnew_; clear hg_ hnew_; (first | rw [← Ny107.out] at ho49 | (simp only [Int.reduceToNat] at ho49; rw [← Ny107.out] at ho49)); have n0_ := Aside0.mk (Kd.N_lower ho49 (below_size (by repeat (first | (with_reducible first | exact HB.out | apply below_alloc | apply pw_below_drewN | apply below_drew1) | exact HB.out)))); have n1_ := Aside0.mk (below_step (by repeat (first | (with_reducible first | exact HB.out | apply below_alloc | apply pw_below_drewN | apply below_drew1) | exact HB.out)) hb); clear HB; clear HO103; clear HO106; have HO109 := n0_; have HB := n1_; clear n0_ n1_; clear hb ho49; obtain ⟨Ao50, co50, eo50⟩ := Kd.N_slice HO109.out; subst eo50) | ((with_reducible refine gate_callee (f := 17) rfl ?_); refine goesL_ (some 9) rfl rfl Try.func17 (by kernel_rfl) rfl #[.slice Ao50 y107.length co50] rfl (by (try simp only [List.map_toArray, List.map_cons, List.map_nil]); first | done | rfl | (simp only [List.length_drop, List.length_take]; rfl)) ?_; (with_reducible refine (gap_Coalesce.calls _ _ y107 t110 t111 _ ?side1 ?side2 A1.out).mono ?_); (case side1 => repeat (first | exact (Kd.N_reads' HO109.out).2.2 | (with_reducible refine Kd.C_alloc ?_ _) | (with_reducible refine Kd.C_drewN ?_ _) | (with_reducible refine Kd.C_drew ?_))); (case side2 => exact (Kd.N_reads' HO109.out).2.1); rintro e w51 ⟨v112, rfl, ho0, hb⟩; refine ⟨_, rfl, ?_⟩; have n0_ := Aside0.mk (Kd.N_elder' (by (with_reducible repeat (first | apply Kd.N_alloc | apply Kd.N_drewN | apply Kd.N_drew)); exact HO109.out) (Kd.R_base ho0) hb); have n1_ := Aside0.mk (Kd.R_lower ho0 (below_size (by repeat (first | (with_reducible first | exact HB.out | apply below_alloc | apply pw_below_drewN | apply below_drew1) | exact HB.out)))); have n2_ := Aside0.mk (below_step (by repeat (first | (with_reducible first | exact HB.out | apply below_alloc | apply pw_below_drewN | apply below_drew1) | exact HB.out)) hb); clear HO109; clear HB; have HO109 := n0_; have HO113 := n1_; have HB := n2_; clear n0_ n1_ n2_; (try clear hb); (try clear hb2); (try clear hk); (try clear hi); (try clear ho0)) | ((with_reducible refine gate_dst (N := 13) rfl ?_); (try (refine gate_guard (by rfl) ?_; dsimp only)); refine Kd.N_make (Kd.slice 9 Kd.string) _ 34 rfl (N' := 13) rfl 22 _ _ rfl 17 rfl rfl Try.underlying22 (.slice none 0 0) 24 info34 rfl (by decide) (by omega) [] (ok := fun k_ => w51.heap.size ≤ k_) (okp := fun _ => False) (Kd.FK_slice_mk (Nat.le_refl _) (Kd.F_nil _ _ _)) (fun _ hk => hk.elim) (Nat.le_refl _) (by omega) (by omega) (Below.refl _ _) (Nat.le_refl _) ?_; intro v115 w52 ho53 hb hg_ hnew_; clear hg_ hnew_; (first | rw [← Ny114.out] at ho53 | (simp only [Int.reduceToNat] at ho53; rw [← Ny114.out] at ho53)); have n0_ := Aside0.mk (Kd.N_elder' (by (with_reducible repeat (first | apply Kd.N_alloc | apply Kd.N_drewN | apply Kd.N_drew)); exact HO109.out) (Kd.N_base ho53) hb); have n1_ := Aside0.mk (Kd.R_below (by (with_reducible repeat (first | apply Kd.R_alloc | apply Kd.R_drewN | apply Kd.R_drew)); exact HO113.out) hb); have n2_ := Aside0.mk (Kd.N_lower (Kd.N_mono (ok' := fun k_ => some k_ ≠ (.slice Ao50 y107.length co50 : Value).ownBlock ∧ some k_ ≠ (v112 : Value).ownBlock) ho53 (fun k_ hk_ => ⟨(Kd.fresh' (Kd.N_lt (by (with_reducible repeat (first | apply Kd.N_alloc | apply Kd.N_drewN | apply Kd.N_drew)); exact HO109.out)) k_ hk_), (Kd.fresh' (Kd.R_lt (by (with_reducible repeat (first | apply Kd.R_alloc | apply Kd.R_drewN | apply Kd.R_drew)); exact HO113.out)) k_ hk_)⟩)) (below_size (by repeat (first | (with_reducible first | exact HB.out | apply below_alloc | apply pw_below_drewN | apply below_drew1) | exact HB.out)))); have n3_ := Aside0.mk (below_step (by repeat (first | (with_reducible first | exact HB.out | apply below_alloc | apply pw_below_drewN | apply below_drew1) | exact HB.out)) hb); clear HO109; clear HO113; clear HB; have HO109 := n0_; have HO113 := n1_; have HO116 := n2_; have HB := n3_; clear n0_ n1_ n2_ n3_; clear hb ho53; obtain ⟨Ao54, co54, eo54⟩ := Kd.N_slice HO116.out; subst eo54) | ((with_reducible refine gate_callee (f := 17) rfl ?_); refine goesL_ (some 14) rfl rfl Try.func17 (by kernel_rfl) rfl #[.slice Ao54 y114.length co54] rfl (by (try simp only [List.map_toArray, List.map_cons, List.map_nil]); first | done | rfl | (simp only [List.length_drop, List.length_take]; rfl)) ?_; (with_reducible refine (gap_Coalesce.calls _ _ y114 t117 t118 _ ?side1 ?side2 A3.out).mono ?_); (case side1 => repeat (first | exact (Kd.N_reads' HO116.out).2.2 | (with_reducible refine Kd.C_alloc ?_ _) | (with_reducible refine Kd.C_drewN ?_ _) | (with_reducible refine Kd.C_drew ?_))); (case side2 => exact (Kd.N_reads' HO116.out).2.1); rintro e w55 ⟨v119, rfl, ho0, hb⟩; refine ⟨_, rfl, ?_⟩; have n0_ := Aside0.mk (Kd.N_elder' (by (with_reducible repeat (first | apply Kd.N_alloc | apply Kd.N_drewN | apply Kd.N_drew)); exact HO109.out) (Kd.R_base ho0) hb); have n1_ := Aside0.mk (Kd.R_elder' (by (with_reducible repeat (first | apply Kd.R_alloc | apply Kd.R_drewN | apply Kd.R_drew)); exact HO113.out) (Kd.R_base ho0) hb); have n2_ := Aside0.mk (Kd.N_elder' (by (with_reducible repeat (first | apply Kd.N_alloc | apply Kd.N_drewN | apply Kd.N_drew)); exact HO116.out) (Kd.R_base ho0) hb); have n3_ := Aside0.mk (Kd.R_lower (Kd.R_new' ho0 (Kd.R_lt (by (with_reducible repeat (first | apply Kd.R_alloc | apply Kd.R_drewN | apply Kd.R_drew)); exact HO113.out))) (below_size (by repeat (first | (with_reducible first | exact HB.out | apply below_alloc | apply pw_below_drewN | apply below_drew1) | exact HB.out)))); have n4_ := Aside0.mk (below_step (by repeat (first | (with_reducible first | exact HB.out | apply below_alloc | apply pw_below_drewN | apply below_drew1) | exact HB.out)) hb); clear HO109; clear HO113; clear HO116; clear HB; have HO109 := n0_; have HO113 := n1_; have HO116 := n2_; have HO120 := n3_; have HB := n4_; clear n0_ n1_ n2_ n3_ n4_; (try clear hb); (try clear hb2); (try clear hk); (try clear hi); (try clear ho0); obtain ⟨Ao56, co56, eo56⟩ := Kd.R_slice HO113.out; subst eo56; have p121 : 0 ≤ (0 : Int) := (by omega); have q121 : 0 < (t110.length : Int) := of_decide_eq_true (by first | (with_reducible assumption) | assumption); obtain ⟨ad121, e121, hx121_0, hx121_1⟩ := at_T37 (Kd.R_reads' HO113.out).2.2 0 p121 q121; cases e121; have qi121 : (0 < t110.length) = True := eq_true (by omega); (try rw [show ((0 : Int)).toNat = 0 from rfl] at hx121_0); (try rw [show 0 * 2 = 0 from rfl] at hx121_0); (try rw [Addr.add_zero'] at hx121_0); (try rw [show ((0 : Int)).toNat = 0 from rfl] at hx121_1); (try rw [show 0 * 2 = 0 from rfl] at hx121_1); (try rw [Addr.add_zero'] at hx121_1); replace p121 := eq_true p121; replace q121 := eq_true q121))
              go_ret
              exact ⟨by first | rfl | (simp [errW_none, errW_some] <;> rfl) | (simp [*, errW_none, errW_some] <;> rfl), by repeat (first | (with_reducible first | exact HB.out | apply below_alloc | apply pw_below_drewN | apply below_drew1) | exact HB.out)⟩
          · rw [if_neg c7] at H
            exact absurd H (by simp)
        · rw [if_neg c6] at H
          have c6b0 : ((t110.length : Int) == 3) = false := beq_eq_false_iff_ne.mpr c6
          have c6b1 : ((t110.length : Int) != 3) = true := bne_iff_ne.mpr c6
          obtain rfl := Option.some.inj H
          go_enter Try.func15, Try.ntmps15
          go_wp2_with (first | ((with_reducible refine gate_dst (N := 6) rfl ?_); (try (refine gate_guard (by rfl) ?_; dsimp only)); refine Kd.R_lit Kd.string _ 9 ?hg (N := 6) ?hd (xs := ([(⟨#[97]⟩ : ByteArray), (⟨#[98]⟩ : ByteArray)] : List ByteArray)) (inner := [.string (⟨#[97]⟩ : ByteArray), .string (⟨#[98]⟩ : ByteArray)]) (ok := fun _ => True) (okp := fun _ => True) ?hr ?hp (fun _ hk => hk) trivial (Below.refl _ _) (Nat.le_refl _) (by simp) ?_; (case hd => rfl); (case hg => rfl); (case hr => first | (go_simp; done) | (go_simp; rfl)); (case hp => exact (Reps.one (show Kd.M Kd.string _ _ _ (⟨#[97]⟩ : ByteArray) [.string (⟨#[97]⟩ : ByteArray)] from rfl) (Reps.one (show Kd.M Kd.string _ _ _ (⟨#[98]⟩ : ByteArray) [.string (⟨#[98]⟩ : ByteArray)] from rfl) (Reps.none _ _)))); intro v102 w57 ho58 hb hg_ hnew_; clear hg_ hnew_; (first | rw [← Ny101.out] at ho58 | (simp only [Int.reduceToNat] at ho58; rw [← Ny101.out] at ho58)); have n0_ := Aside0.mk (Kd.R_lower ho58 (below_size (by repeat (first | (with_reducible first | exact HB.out | apply below_alloc | apply pw_below_drewN | apply below_drew1) | exact HB.out)))); have n1_ := Aside0.mk (below_step (by repeat (first | (with_reducible first | exact HB.out | apply below_alloc | apply pw_below_drewN | apply below_drew1) | exact HB.out)) hb); clear HB; have HO103 := n0_; have HB := n1_; clear n0_ n1_; clear hb ho58) | ((with_reducible refine gate_dst (N := 7) rfl ?_); (try (refine gate_guard (by rfl) ?_; dsimp only)); refine Kd.R_lit Kd.string _ 9 ?hg (N := 7) ?hd (xs := ([(⟨#[98]⟩ : ByteArray), (⟨#[99]⟩ : ByteArray)] : List ByteArray)) (inner := [.string (⟨#[98]⟩ : ByteArray), .string (⟨#[99]⟩ : ByteArray)]) (ok := fun _ => True) (okp := fun _ => True) ?hr ?hp (fun _ hk => hk) trivial (Below.refl _ _) (Nat.le_refl _) (by simp) ?_; (case hd => rfl); (case hg => rfl); (case hr => first | (go_simp; done) | (go_simp; rfl)); (case hp => exact (Reps.one (show Kd.M Kd.string _ _ _ (⟨#[98]⟩ : ByteArray) [.string (⟨#[98]⟩ : ByteArray)] from rfl) (Reps.one (show Kd.M Kd.string _ _ _ (⟨#[99]⟩ : ByteArray) [.string (⟨#[99]⟩ : ByteArray)] from rfl) (Reps.none _ _)))); intro v105 w59 ho60 hb hg_ hnew_; clear hg_ hnew_; (first | rw [← Ny104.out] at ho60 | (simp only [Int.reduceToNat] at ho60; rw [← Ny104.out] at ho60)); have n0_ := Aside0.mk (Kd.R_elder' (by (with_reducible repeat (first | apply Kd.R_alloc | apply Kd.R_drewN | apply Kd.R_drew)); exact HO103.out) (Kd.R_base ho60) hb); have n1_ := Aside0.mk (Kd.R_lower (Kd.R_new' ho60 (Kd.R_lt (by (with_reducible repeat (first | apply Kd.R_alloc | apply Kd.R_drewN | apply Kd.R_drew)); exact HO103.out))) (below_size (by repeat (first | (with_reducible first | exact HB.out | apply below_alloc | apply pw_below_drewN | apply below_drew1) | exact HB.out)))); have n2_ := Aside0.mk (below_step (by repeat (first | (with_reducible first | exact HB.out | apply below_alloc | apply pw_below_drewN | apply below_drew1) | exact HB.out)) hb); clear HO103; clear HB; have HO103 := n0_; have HO106 := n1_; have HB := n2_; clear n0_ n1_ n2_; clear hb ho60; obtain ⟨Ao61, co61, eo61⟩ := Kd.R_slice HO103.out; subst eo61; obtain ⟨Ao62, co62, eo62⟩ := Kd.R_slice HO106.out; subst eo62) | ((with_reducible refine gate_dst (N := 8) rfl ?_); (try (refine gate_guard (by rfl) ?_; dsimp only)); refine Kd.N_lit (Kd.slice 9 Kd.string) _ 34 ?hg (N' := 8) ?hd (xs := ([y101, y104] : List (List ByteArray))) (inner := [.slice Ao61 y101.length co61, .slice Ao62 y104.length co62]) (ok := (fun _ => True)) (okp := (fun _ => True)) ?hr ?hp (fun _ hk => hk) ((show ∀ k_, w59.heap.size ≤ k_ → (fun _ => True) k_ from fun k_ hk => trivial) _ (Nat.le_refl _)) (Below.refl _ _) (Nat.le_refl _) (by simp) ?_; (case hd => rfl); (case hg => rfl); (case hr => first | (go_simp; done) | (go_simp; rfl)); (case hp => exact (Reps.one (show Kd.FK (Kd.slice 9 Kd.string) _ _ y101 [.slice Ao61 y101.length co61] from (Kd.FK_slice_mk (Kd.R_reads' (Kd.R_mono (ok' := (fun _ => True)) (HO103.out) (fun k_ hk => trivial))).2.1 (Kd.R_F (Kd.R_mono (ok' := (fun _ => True)) (HO103.out) (fun k_ hk => trivial))))) (Reps.one (show Kd.FK (Kd.slice 9 Kd.string) _ _ y104 [.slice Ao62 y104.length co62] from (Kd.FK_slice_mk (Kd.R_reads' (Kd.R_mono (ok' := (fun _ => True)) (HO106.out) (fun k_ hk => trivial))).2.1 (Kd.R_F (Kd.R_mono (ok' := (fun _ => True)) (HO106.out) (fun k_ hk => trivial))))) (Reps.none _ _)))); intro v108 w63 ho64 hb hg_ hnew_; clear hg_ hnew_; (first | rw [← Ny107.out] at ho64 | (simp only [Int.reduceToNat] at ho64; rw [← Ny107.out] at ho64)); have n0_ := Aside0.mk (Kd.N_lower ho64 (below_size (by repeat (first | (with_reducible first | exact HB.out | apply below_alloc | apply pw_below_drewN | apply below_drew1) | exact HB.out)))); have n1_ := Aside0.mk (below_step (by repeat (first | (with_reducible first | exact HB.out | apply below_alloc | apply pw_below_drewN | apply below_drew1) | exact HB.out)) hb); clear HB; clear HO103; clear HO106; have HO109 := n0_; have HB := n1_; clear n0_ n1_; clear hb ho64; obtain ⟨Ao65, co65, eo65⟩ := Kd.N_slice HO109.out; subst eo65) | ((with_reducible refine gate_callee (f := 17) rfl ?_); refine goesL_ (some 9) rfl rfl Try.func17 (by kernel_rfl) rfl #[.slice Ao65 y107.length co65] rfl (by (try simp only [List.map_toArray, List.map_cons, List.map_nil]); first | done | rfl | (simp only [List.length_drop, List.length_take]; rfl)) ?_; (with_reducible refine (gap_Coalesce.calls _ _ y107 t110 t111 _ ?side1 ?side2 A1.out).mono ?_); (case side1 => repeat (first | exact (Kd.N_reads' HO109.out).2.2 | (with_reducible refine Kd.C_alloc ?_ _) | (with_reducible refine Kd.C_drewN ?_ _) | (with_reducible refine Kd.C_drew ?_))); (case side2 => exact (Kd.N_reads' HO109.out).2.1); rintro e w66 ⟨v112, rfl, ho0, hb⟩; refine ⟨_, rfl, ?_⟩; have n0_ := Aside0.mk (Kd.N_elder' (by (with_reducible repeat (first | apply Kd.N_alloc | apply Kd.N_drewN | apply Kd.N_drew)); exact HO109.out) (Kd.R_base ho0) hb); have n1_ := Aside0.mk (Kd.R_lower ho0 (below_size (by repeat (first | (with_reducible first | exact HB.out | apply below_alloc | apply pw_below_drewN | apply below_drew1) | exact HB.out)))); have n2_ := Aside0.mk (below_step (by repeat (first | (with_reducible first | exact HB.out | apply below_alloc | apply pw_below_drewN | apply below_drew1) | exact HB.out)) hb); clear HO109; clear HB; have HO109 := n0_; have HO113 := n1_; have HB := n2_; clear n0_ n1_ n2_; (try clear hb); (try clear hb2); (try clear hk); (try clear hi); (try clear ho0)) | ((with_reducible refine gate_dst (N := 13) rfl ?_); (try (refine gate_guard (by rfl) ?_; dsimp only)); refine Kd.N_make (Kd.slice 9 Kd.string) _ 34 rfl (N' := 13) rfl 22 _ _ rfl 17 rfl rfl Try.underlying22 (.slice none 0 0) 24 info34 rfl (by decide) (by omega) [] (ok := fun k_ => w66.heap.size ≤ k_) (okp := fun _ => False) (Kd.FK_slice_mk (Nat.le_refl _) (Kd.F_nil _ _ _)) (fun _ hk => hk.elim) (Nat.le_refl _) (by omega) (by omega) (Below.refl _ _) (Nat.le_refl _) ?_; intro v115 w67 ho68 hb hg_ hnew_; clear hg_ hnew_; (first | rw [← Ny114.out] at ho68 | (simp only [Int.reduceToNat] at ho68; rw [← Ny114.out] at ho68)); have n0_ := Aside0.mk (Kd.N_elder' (by (with_reducible repeat (first | apply Kd.N_alloc | apply Kd.N_drewN | apply Kd.N_drew)); exact HO109.out) (Kd.N_base ho68) hb); have n1_ := Aside0.mk (Kd.R_below (by (with_reducible repeat (first | apply Kd.R_alloc | apply Kd.R_drewN | apply Kd.R_drew)); exact HO113.out) hb); have n2_ := Aside0.mk (Kd.N_lower (Kd.N_mono (ok' := fun k_ => some k_ ≠ (.slice Ao65 y107.length co65 : Value).ownBlock ∧ some k_ ≠ (v112 : Value).ownBlock) ho68 (fun k_ hk_ => ⟨(Kd.fresh' (Kd.N_lt (by (with_reducible repeat (first | apply Kd.N_alloc | apply Kd.N_drewN | apply Kd.N_drew)); exact HO109.out)) k_ hk_), (Kd.fresh' (Kd.R_lt (by (with_reducible repeat (first | apply Kd.R_alloc | apply Kd.R_drewN | apply Kd.R_drew)); exact HO113.out)) k_ hk_)⟩)) (below_size (by repeat (first | (with_reducible first | exact HB.out | apply below_alloc | apply pw_below_drewN | apply below_drew1) | exact HB.out)))); have n3_ := Aside0.mk (below_step (by repeat (first | (with_reducible first | exact HB.out | apply below_alloc | apply pw_below_drewN | apply below_drew1) | exact HB.out)) hb); clear HO109; clear HO113; clear HB; have HO109 := n0_; have HO113 := n1_; have HO116 := n2_; have HB := n3_; clear n0_ n1_ n2_ n3_; clear hb ho68; obtain ⟨Ao69, co69, eo69⟩ := Kd.N_slice HO116.out; subst eo69) | ((with_reducible refine gate_callee (f := 17) rfl ?_); refine goesL_ (some 14) rfl rfl Try.func17 (by kernel_rfl) rfl #[.slice Ao69 y114.length co69] rfl (by (try simp only [List.map_toArray, List.map_cons, List.map_nil]); first | done | rfl | (simp only [List.length_drop, List.length_take]; rfl)) ?_; (with_reducible refine (gap_Coalesce.calls _ _ y114 t117 t118 _ ?side1 ?side2 A3.out).mono ?_); (case side1 => repeat (first | exact (Kd.N_reads' HO116.out).2.2 | (with_reducible refine Kd.C_alloc ?_ _) | (with_reducible refine Kd.C_drewN ?_ _) | (with_reducible refine Kd.C_drew ?_))); (case side2 => exact (Kd.N_reads' HO116.out).2.1); rintro e w70 ⟨v119, rfl, ho0, hb⟩; refine ⟨_, rfl, ?_⟩; have n0_ := Aside0.mk (Kd.N_elder' (by (with_reducible repeat (first | apply Kd.N_alloc | apply Kd.N_drewN | apply Kd.N_drew)); exact HO109.out) (Kd.R_base ho0) hb); have n1_ := Aside0.mk (Kd.R_elder' (by (with_reducible repeat (first | apply Kd.R_alloc | apply Kd.R_drewN | apply Kd.R_drew)); exact HO113.out) (Kd.R_base ho0) hb); have n2_ := Aside0.mk (Kd.N_elder' (by (with_reducible repeat (first | apply Kd.N_alloc | apply Kd.N_drewN | apply Kd.N_drew)); exact HO116.out) (Kd.R_base ho0) hb); have n3_ := Aside0.mk (Kd.R_lower (Kd.R_new' ho0 (Kd.R_lt (by (with_reducible repeat (first | apply Kd.R_alloc | apply Kd.R_drewN | apply Kd.R_drew)); exact HO113.out))) (below_size (by repeat (first | (with_reducible first | exact HB.out | apply below_alloc | apply pw_below_drewN | apply below_drew1) | exact HB.out)))); have n4_ := Aside0.mk (below_step (by repeat (first | (with_reducible first | exact HB.out | apply below_alloc | apply pw_below_drewN | apply below_drew1) | exact HB.out)) hb); clear HO109; clear HO113; clear HO116; clear HB; have HO109 := n0_; have HO113 := n1_; have HO116 := n2_; have HO120 := n3_; have HB := n4_; clear n0_ n1_ n2_ n3_ n4_; (try clear hb); (try clear hb2); (try clear hk); (try clear hi); (try clear ho0); obtain ⟨Ao71, co71, eo71⟩ := Kd.R_slice HO113.out; subst eo71))
          go_ret
          exact ⟨by first | rfl | (simp [errW_none, errW_some] <;> rfl) | (simp [*, errW_none, errW_some] <;> rfl), by repeat (first | (with_reducible first | exact HB.out | apply below_alloc | apply pw_below_drewN | apply below_drew1) | exact HB.out)⟩
      · rw [if_neg c5] at H
        have c5b0 : (t118 == 1) = false := beq_eq_false_iff_ne.mpr c5
        have c5b1 : (t118 != 1) = true := bne_iff_ne.mpr c5
        obtain rfl := Option.some.inj H
        go_enter Try.func15, Try.ntmps15
        go_wp2_with (first | ((with_reducible refine gate_dst (N := 6) rfl ?_); (try (refine gate_guard (by rfl) ?_; dsimp only)); refine Kd.R_lit Kd.string _ 9 ?hg (N := 6) ?hd (xs := ([(⟨#[97]⟩ : ByteArray), (⟨#[98]⟩ : ByteArray)] : List ByteArray)) (inner := [.string (⟨#[97]⟩ : ByteArray), .string (⟨#[98]⟩ : ByteArray)]) (ok := fun _ => True) (okp := fun _ => True) ?hr ?hp (fun _ hk => hk) trivial (Below.refl _ _) (Nat.le_refl _) (by simp) ?_; (case hd => rfl); (case hg => rfl); (case hr => first | (go_simp; done) | (go_simp; rfl)); (case hp => exact (Reps.one (show Kd.M Kd.string _ _ _ (⟨#[97]⟩ : ByteArray) [.string (⟨#[97]⟩ : ByteArray)] from rfl) (Reps.one (show Kd.M Kd.string _ _ _ (⟨#[98]⟩ : ByteArray) [.string (⟨#[98]⟩ : ByteArray)] from rfl) (Reps.none _ _)))); intro v102 w72 ho73 hb hg_ hnew_; clear hg_ hnew_; (first | rw [← Ny101.out] at ho73 | (simp only [Int.reduceToNat] at ho73; rw [← Ny101.out] at ho73)); have n0_ := Aside0.mk (Kd.R_lower ho73 (below_size (by repeat (first | (with_reducible first | exact HB.out | apply below_alloc | apply pw_below_drewN | apply below_drew1) | exact HB.out)))); have n1_ := Aside0.mk (below_step (by repeat (first | (with_reducible first | exact HB.out | apply below_alloc | apply pw_below_drewN | apply below_drew1) | exact HB.out)) hb); clear HB; have HO103 := n0_; have HB := n1_; clear n0_ n1_; clear hb ho73) | ((with_reducible refine gate_dst (N := 7) rfl ?_); (try (refine gate_guard (by rfl) ?_; dsimp only)); refine Kd.R_lit Kd.string _ 9 ?hg (N := 7) ?hd (xs := ([(⟨#[98]⟩ : ByteArray), (⟨#[99]⟩ : ByteArray)] : List ByteArray)) (inner := [.string (⟨#[98]⟩ : ByteArray), .string (⟨#[99]⟩ : ByteArray)]) (ok := fun _ => True) (okp := fun _ => True) ?hr ?hp (fun _ hk => hk) trivial (Below.refl _ _) (Nat.le_refl _) (by simp) ?_; (case hd => rfl); (case hg => rfl); (case hr => first | (go_simp; done) | (go_simp; rfl)); (case hp => exact (Reps.one (show Kd.M Kd.string _ _ _ (⟨#[98]⟩ : ByteArray) [.string (⟨#[98]⟩ : ByteArray)] from rfl) (Reps.one (show Kd.M Kd.string _ _ _ (⟨#[99]⟩ : ByteArray) [.string (⟨#[99]⟩ : ByteArray)] from rfl) (Reps.none _ _)))); intro v105 w74 ho75 hb hg_ hnew_; clear hg_ hnew_; (first | rw [← Ny104.out] at ho75 | (simp only [Int.reduceToNat] at ho75; rw [← Ny104.out] at ho75)); have n0_ := Aside0.mk (Kd.R_elder' (by (with_reducible repeat (first | apply Kd.R_alloc | apply Kd.R_drewN | apply Kd.R_drew)); exact HO103.out) (Kd.R_base ho75) hb); have n1_ := Aside0.mk (Kd.R_lower (Kd.R_new' ho75 (Kd.R_lt (by (with_reducible repeat (first | apply Kd.R_alloc | apply Kd.R_drewN | apply Kd.R_drew)); exact HO103.out))) (below_size (by repeat (first | (with_reducible first | exact HB.out | apply below_alloc | apply pw_below_drewN | apply below_drew1) | exact HB.out)))); have n2_ := Aside0.mk (below_step (by repeat (first | (with_reducible first | exact HB.out | apply below_alloc | apply pw_below_drewN | apply below_drew1) | exact HB.out)) hb); clear HO103; clear HB; have HO103 := n0_; have HO106 := n1_; have HB := n2_; clear n0_ n1_ n2_; clear hb ho75; obtain ⟨Ao76, co76, eo76⟩ := Kd.R_slice HO103.out; subst eo76; obtain ⟨Ao77, co77, eo77⟩ := Kd.R_slice HO106.out; subst eo77) | ((with_reducible refine gate_dst (N := 8) rfl ?_); (try (refine gate_guard (by rfl) ?_; dsimp only)); refine Kd.N_lit (Kd.slice 9 Kd.string) _ 34 ?hg (N' := 8) ?hd (xs := ([y101, y104] : List (List ByteArray))) (inner := [.slice Ao76 y101.length co76, .slice Ao77 y104.length co77]) (ok := (fun _ => True)) (okp := (fun _ => True)) ?hr ?hp (fun _ hk => hk) ((show ∀ k_, w74.heap.size ≤ k_ → (fun _ => True) k_ from fun k_ hk => trivial) _ (Nat.le_refl _)) (Below.refl _ _) (Nat.le_refl _) (by simp) ?_; (case hd => rfl); (case hg => rfl); (case hr => first | (go_simp; done) | (go_simp; rfl)); (case hp => exact (Reps.one (show Kd.FK (Kd.slice 9 Kd.string) _ _ y101 [.slice Ao76 y101.length co76] from (Kd.FK_slice_mk (Kd.R_reads' (Kd.R_mono (ok' := (fun _ => True)) (HO103.out) (fun k_ hk => trivial))).2.1 (Kd.R_F (Kd.R_mono (ok' := (fun _ => True)) (HO103.out) (fun k_ hk => trivial))))) (Reps.one (show Kd.FK (Kd.slice 9 Kd.string) _ _ y104 [.slice Ao77 y104.length co77] from (Kd.FK_slice_mk (Kd.R_reads' (Kd.R_mono (ok' := (fun _ => True)) (HO106.out) (fun k_ hk => trivial))).2.1 (Kd.R_F (Kd.R_mono (ok' := (fun _ => True)) (HO106.out) (fun k_ hk => trivial))))) (Reps.none _ _)))); intro v108 w78 ho79 hb hg_ hnew_; clear hg_ hnew_; (first | rw [← Ny107.out] at ho79 | (simp only [Int.reduceToNat] at ho79; rw [← Ny107.out] at ho79)); have n0_ := Aside0.mk (Kd.N_lower ho79 (below_size (by repeat (first | (with_reducible first | exact HB.out | apply below_alloc | apply pw_below_drewN | apply below_drew1) | exact HB.out)))); have n1_ := Aside0.mk (below_step (by repeat (first | (with_reducible first | exact HB.out | apply below_alloc | apply pw_below_drewN | apply below_drew1) | exact HB.out)) hb); clear HB; clear HO103; clear HO106; have HO109 := n0_; have HB := n1_; clear n0_ n1_; clear hb ho79; obtain ⟨Ao80, co80, eo80⟩ := Kd.N_slice HO109.out; subst eo80) | ((with_reducible refine gate_callee (f := 17) rfl ?_); refine goesL_ (some 9) rfl rfl Try.func17 (by kernel_rfl) rfl #[.slice Ao80 y107.length co80] rfl (by (try simp only [List.map_toArray, List.map_cons, List.map_nil]); first | done | rfl | (simp only [List.length_drop, List.length_take]; rfl)) ?_; (with_reducible refine (gap_Coalesce.calls _ _ y107 t110 t111 _ ?side1 ?side2 A1.out).mono ?_); (case side1 => repeat (first | exact (Kd.N_reads' HO109.out).2.2 | (with_reducible refine Kd.C_alloc ?_ _) | (with_reducible refine Kd.C_drewN ?_ _) | (with_reducible refine Kd.C_drew ?_))); (case side2 => exact (Kd.N_reads' HO109.out).2.1); rintro e w81 ⟨v112, rfl, ho0, hb⟩; refine ⟨_, rfl, ?_⟩; have n0_ := Aside0.mk (Kd.N_elder' (by (with_reducible repeat (first | apply Kd.N_alloc | apply Kd.N_drewN | apply Kd.N_drew)); exact HO109.out) (Kd.R_base ho0) hb); have n1_ := Aside0.mk (Kd.R_lower ho0 (below_size (by repeat (first | (with_reducible first | exact HB.out | apply below_alloc | apply pw_below_drewN | apply below_drew1) | exact HB.out)))); have n2_ := Aside0.mk (below_step (by repeat (first | (with_reducible first | exact HB.out | apply below_alloc | apply pw_below_drewN | apply below_drew1) | exact HB.out)) hb); clear HO109; clear HB; have HO109 := n0_; have HO113 := n1_; have HB := n2_; clear n0_ n1_ n2_; (try clear hb); (try clear hb2); (try clear hk); (try clear hi); (try clear ho0)) | ((with_reducible refine gate_dst (N := 13) rfl ?_); (try (refine gate_guard (by rfl) ?_; dsimp only)); refine Kd.N_make (Kd.slice 9 Kd.string) _ 34 rfl (N' := 13) rfl 22 _ _ rfl 17 rfl rfl Try.underlying22 (.slice none 0 0) 24 info34 rfl (by decide) (by omega) [] (ok := fun k_ => w81.heap.size ≤ k_) (okp := fun _ => False) (Kd.FK_slice_mk (Nat.le_refl _) (Kd.F_nil _ _ _)) (fun _ hk => hk.elim) (Nat.le_refl _) (by omega) (by omega) (Below.refl _ _) (Nat.le_refl _) ?_; intro v115 w82 ho83 hb hg_ hnew_; clear hg_ hnew_; (first | rw [← Ny114.out] at ho83 | (simp only [Int.reduceToNat] at ho83; rw [← Ny114.out] at ho83)); have n0_ := Aside0.mk (Kd.N_elder' (by (with_reducible repeat (first | apply Kd.N_alloc | apply Kd.N_drewN | apply Kd.N_drew)); exact HO109.out) (Kd.N_base ho83) hb); have n1_ := Aside0.mk (Kd.R_below (by (with_reducible repeat (first | apply Kd.R_alloc | apply Kd.R_drewN | apply Kd.R_drew)); exact HO113.out) hb); have n2_ := Aside0.mk (Kd.N_lower (Kd.N_mono (ok' := fun k_ => some k_ ≠ (.slice Ao80 y107.length co80 : Value).ownBlock ∧ some k_ ≠ (v112 : Value).ownBlock) ho83 (fun k_ hk_ => ⟨(Kd.fresh' (Kd.N_lt (by (with_reducible repeat (first | apply Kd.N_alloc | apply Kd.N_drewN | apply Kd.N_drew)); exact HO109.out)) k_ hk_), (Kd.fresh' (Kd.R_lt (by (with_reducible repeat (first | apply Kd.R_alloc | apply Kd.R_drewN | apply Kd.R_drew)); exact HO113.out)) k_ hk_)⟩)) (below_size (by repeat (first | (with_reducible first | exact HB.out | apply below_alloc | apply pw_below_drewN | apply below_drew1) | exact HB.out)))); have n3_ := Aside0.mk (below_step (by repeat (first | (with_reducible first | exact HB.out | apply below_alloc | apply pw_below_drewN | apply below_drew1) | exact HB.out)) hb); clear HO109; clear HO113; clear HB; have HO109 := n0_; have HO113 := n1_; have HO116 := n2_; have HB := n3_; clear n0_ n1_ n2_ n3_; clear hb ho83; obtain ⟨Ao84, co84, eo84⟩ := Kd.N_slice HO116.out; subst eo84) | ((with_reducible refine gate_callee (f := 17) rfl ?_); refine goesL_ (some 14) rfl rfl Try.func17 (by kernel_rfl) rfl #[.slice Ao84 y114.length co84] rfl (by (try simp only [List.map_toArray, List.map_cons, List.map_nil]); first | done | rfl | (simp only [List.length_drop, List.length_take]; rfl)) ?_; (with_reducible refine (gap_Coalesce.calls _ _ y114 t117 t118 _ ?side1 ?side2 A3.out).mono ?_); (case side1 => repeat (first | exact (Kd.N_reads' HO116.out).2.2 | (with_reducible refine Kd.C_alloc ?_ _) | (with_reducible refine Kd.C_drewN ?_ _) | (with_reducible refine Kd.C_drew ?_))); (case side2 => exact (Kd.N_reads' HO116.out).2.1); rintro e w85 ⟨v119, rfl, ho0, hb⟩; refine ⟨_, rfl, ?_⟩; have n0_ := Aside0.mk (Kd.N_elder' (by (with_reducible repeat (first | apply Kd.N_alloc | apply Kd.N_drewN | apply Kd.N_drew)); exact HO109.out) (Kd.R_base ho0) hb); have n1_ := Aside0.mk (Kd.R_elder' (by (with_reducible repeat (first | apply Kd.R_alloc | apply Kd.R_drewN | apply Kd.R_drew)); exact HO113.out) (Kd.R_base ho0) hb); have n2_ := Aside0.mk (Kd.N_elder' (by (with_reducible repeat (first | apply Kd.N_alloc | apply Kd.N_drewN | apply Kd.N_drew)); exact HO116.out) (Kd.R_base ho0) hb); have n3_ := Aside0.mk (Kd.R_lower (Kd.R_new' ho0 (Kd.R_lt (by (with_reducible repeat (first | apply Kd.R_alloc | apply Kd.R_drewN | apply Kd.R_drew)); exact HO113.out))) (below_size (by repeat (first | (with_reducible first | exact HB.out | apply below_alloc | apply pw_below_drewN | apply below_drew1) | exact HB.out)))); have n4_ := Aside0.mk (below_step (by repeat (first | (with_reducible first | exact HB.out | apply below_alloc | apply pw_below_drewN | apply below_drew1) | exact HB.out)) hb); clear HO109; clear HO113; clear HO116; clear HB; have HO109 := n0_; have HO113 := n1_; have HO116 := n2_; have HO120 := n3_; have HB := n4_; clear n0_ n1_ n2_ n3_ n4_; (try clear hb); (try clear hb2); (try clear hk); (try clear hi); (try clear ho0)))
        go_ret
        exact ⟨by first | rfl | (simp [errW_none, errW_some] <;> rfl) | (simp [*, errW_none, errW_some] <;> rfl), by repeat (first | (with_reducible first | exact HB.out | apply below_alloc | apply pw_below_drewN | apply below_drew1) | exact HB.out)⟩
    · rw [if_neg c4] at H
      have c4b0 : (t111 == 0) = false := beq_eq_false_iff_ne.mpr c4
      have c4b1 : (t111 != 0) = true := bne_iff_ne.mpr c4
      obtain rfl := Option.some.inj H
      go_enter Try.func15, Try.ntmps15
      go_wp2_with (first | ((with_reducible refine gate_dst (N := 6) rfl ?_); (try (refine gate_guard (by rfl) ?_; dsimp only)); refine Kd.R_lit Kd.string _ 9 ?hg (N := 6) ?hd (xs := ([(⟨#[97]⟩ : ByteArray), (⟨#[98]⟩ : ByteArray)] : List ByteArray)) (inner := [.string (⟨#[97]⟩ : ByteArray), .string (⟨#[98]⟩ : ByteArray)]) (ok := fun _ => True) (okp := fun _ => True) ?hr ?hp (fun _ hk => hk) trivial (Below.refl _ _) (Nat.le_refl _) (by simp) ?_; (case hd => rfl); (case hg => rfl); (case hr => first | (go_simp; done) | (go_simp; rfl)); (case hp => exact (Reps.one (show Kd.M Kd.string _ _ _ (⟨#[97]⟩ : ByteArray) [.string (⟨#[97]⟩ : ByteArray)] from rfl) (Reps.one (show Kd.M Kd.string _ _ _ (⟨#[98]⟩ : ByteArray) [.string (⟨#[98]⟩ : ByteArray)] from rfl) (Reps.none _ _)))); intro v102 w86 ho87 hb hg_ hnew_; clear hg_ hnew_; (first | rw [← Ny101.out] at ho87 | (simp only [Int.reduceToNat] at ho87; rw [← Ny101.out] at ho87)); have n0_ := Aside0.mk (Kd.R_lower ho87 (below_size (by repeat (first | (with_reducible first | exact HB.out | apply below_alloc | apply pw_below_drewN | apply below_drew1) | exact HB.out)))); have n1_ := Aside0.mk (below_step (by repeat (first | (with_reducible first | exact HB.out | apply below_alloc | apply pw_below_drewN | apply below_drew1) | exact HB.out)) hb); clear HB; have HO103 := n0_; have HB := n1_; clear n0_ n1_; clear hb ho87) | ((with_reducible refine gate_dst (N := 7) rfl ?_); (try (refine gate_guard (by rfl) ?_; dsimp only)); refine Kd.R_lit Kd.string _ 9 ?hg (N := 7) ?hd (xs := ([(⟨#[98]⟩ : ByteArray), (⟨#[99]⟩ : ByteArray)] : List ByteArray)) (inner := [.string (⟨#[98]⟩ : ByteArray), .string (⟨#[99]⟩ : ByteArray)]) (ok := fun _ => True) (okp := fun _ => True) ?hr ?hp (fun _ hk => hk) trivial (Below.refl _ _) (Nat.le_refl _) (by simp) ?_; (case hd => rfl); (case hg => rfl); (case hr => first | (go_simp; done) | (go_simp; rfl)); (case hp => exact (Reps.one (show Kd.M Kd.string _ _ _ (⟨#[98]⟩ : ByteArray) [.string (⟨#[98]⟩ : ByteArray)] from rfl) (Reps.one (show Kd.M Kd.string _ _ _ (⟨#[99]⟩ : ByteArray) [.string (⟨#[99]⟩ : ByteArray)] from rfl) (Reps.none _ _)))); intro v105 w88 ho89 hb hg_ hnew_; clear hg_ hnew_; (first | rw [← Ny104.out] at ho89 | (simp only [Int.reduceToNat] at ho89; rw [← Ny104.out] at ho89)); have n0_ := Aside0.mk (Kd.R_elder' (by (with_reducible repeat (first | apply Kd.R_alloc | apply Kd.R_drewN | apply Kd.R_drew)); exact HO103.out) (Kd.R_base ho89) hb); have n1_ := Aside0.mk (Kd.R_lower (Kd.R_new' ho89 (Kd.R_lt (by (with_reducible repeat (first | apply Kd.R_alloc | apply Kd.R_drewN | apply Kd.R_drew)); exact HO103.out))) (below_size (by repeat (first | (with_reducible first | exact HB.out | apply below_alloc | apply pw_below_drewN | apply below_drew1) | exact HB.out)))); have n2_ := Aside0.mk (below_step (by repeat (first | (with_reducible first | exact HB.out | apply below_alloc | apply pw_below_drewN | apply below_drew1) | exact HB.out)) hb); clear HO103; clear HB; have HO103 := n0_; have HO106 := n1_; have HB := n2_; clear n0_ n1_ n2_; clear hb ho89; obtain ⟨Ao90, co90, eo90⟩ := Kd.R_slice HO103.out; subst eo90; obtain ⟨Ao91, co91, eo91⟩ := Kd.R_slice HO106.out; subst eo91) | ((with_reducible refine gate_dst (N := 8) rfl ?_); (try (refine gate_guard (by rfl) ?_; dsimp only)); refine Kd.N_lit (Kd.slice 9 Kd.string) _ 34 ?hg (N' := 8) ?hd (xs := ([y101, y104] : List (List ByteArray))) (inner := [.slice Ao90 y101.length co90, .slice Ao91 y104.length co91]) (ok := (fun _ => True)) (okp := (fun _ => True)) ?hr ?hp (fun _ hk => hk) ((show ∀ k_, w88.heap.size ≤ k_ → (fun _ => True) k_ from fun k_ hk => trivial) _ (Nat.le_refl _)) (Below.refl _ _) (Nat.le_refl _) (by simp) ?_; (case hd => rfl); (case hg => rfl); (case hr => first | (go_simp; done) | (go_simp; rfl)); (case hp => exact (Reps.one (show Kd.FK (Kd.slice 9 Kd.string) _ _ y101 [.slice Ao90 y101.length co90] from (Kd.FK_slice_mk (Kd.R_reads' (Kd.R_mono (ok' := (fun _ => True)) (HO103.out) (fun k_ hk => trivial))).2.1 (Kd.R_F (Kd.R_mono (ok' := (fun _ => True)) (HO103.out) (fun k_ hk => trivial))))) (Reps.one (show Kd.FK (Kd.slice 9 Kd.string) _ _ y104 [.slice Ao91 y104.length co91] from (Kd.FK_slice_mk (Kd.R_reads' (Kd.R_mono (ok' := (fun _ => True)) (HO106.out) (fun k_ hk => trivial))).2.1 (Kd.R_F (Kd.R_mono (ok' := (fun _ => True)) (HO106.out) (fun k_ hk => trivial))))) (Reps.none _ _)))); intro v108 w92 ho93 hb hg_ hnew_; clear hg_ hnew_; (first | rw [← Ny107.out] at ho93 | (simp only [Int.reduceToNat] at ho93; rw [← Ny107.out] at ho93)); have n0_ := Aside0.mk (Kd.N_lower ho93 (below_size (by repeat (first | (with_reducible first | exact HB.out | apply below_alloc | apply pw_below_drewN | apply below_drew1) | exact HB.out)))); have n1_ := Aside0.mk (below_step (by repeat (first | (with_reducible first | exact HB.out | apply below_alloc | apply pw_below_drewN | apply below_drew1) | exact HB.out)) hb); clear HB; clear HO103; clear HO106; have HO109 := n0_; have HB := n1_; clear n0_ n1_; clear hb ho93; obtain ⟨Ao94, co94, eo94⟩ := Kd.N_slice HO109.out; subst eo94) | ((with_reducible refine gate_callee (f := 17) rfl ?_); refine goesL_ (some 9) rfl rfl Try.func17 (by kernel_rfl) rfl #[.slice Ao94 y107.length co94] rfl (by (try simp only [List.map_toArray, List.map_cons, List.map_nil]); first | done | rfl | (simp only [List.length_drop, List.length_take]; rfl)) ?_; (with_reducible refine (gap_Coalesce.calls _ _ y107 t110 t111 _ ?side1 ?side2 A1.out).mono ?_); (case side1 => repeat (first | exact (Kd.N_reads' HO109.out).2.2 | (with_reducible refine Kd.C_alloc ?_ _) | (with_reducible refine Kd.C_drewN ?_ _) | (with_reducible refine Kd.C_drew ?_))); (case side2 => exact (Kd.N_reads' HO109.out).2.1); rintro e w95 ⟨v112, rfl, ho0, hb⟩; refine ⟨_, rfl, ?_⟩; have n0_ := Aside0.mk (Kd.N_elder' (by (with_reducible repeat (first | apply Kd.N_alloc | apply Kd.N_drewN | apply Kd.N_drew)); exact HO109.out) (Kd.R_base ho0) hb); have n1_ := Aside0.mk (Kd.R_lower ho0 (below_size (by repeat (first | (with_reducible first | exact HB.out | apply below_alloc | apply pw_below_drewN | apply below_drew1) | exact HB.out)))); have n2_ := Aside0.mk (below_step (by repeat (first | (with_reducible first | exact HB.out | apply below_alloc | apply pw_below_drewN | apply below_drew1) | exact HB.out)) hb); clear HO109; clear HB; have HO109 := n0_; have HO113 := n1_; have HB := n2_; clear n0_ n1_ n2_; (try clear hb); (try clear hb2); (try clear hk); (try clear hi); (try clear ho0)) | ((with_reducible refine gate_dst (N := 13) rfl ?_); (try (refine gate_guard (by rfl) ?_; dsimp only)); refine Kd.N_make (Kd.slice 9 Kd.string) _ 34 rfl (N' := 13) rfl 22 _ _ rfl 17 rfl rfl Try.underlying22 (.slice none 0 0) 24 info34 rfl (by decide) (by omega) [] (ok := fun k_ => w95.heap.size ≤ k_) (okp := fun _ => False) (Kd.FK_slice_mk (Nat.le_refl _) (Kd.F_nil _ _ _)) (fun _ hk => hk.elim) (Nat.le_refl _) (by omega) (by omega) (Below.refl _ _) (Nat.le_refl _) ?_; intro v115 w96 ho97 hb hg_ hnew_; clear hg_ hnew_; (first | rw [← Ny114.out] at ho97 | (simp only [Int.reduceToNat] at ho97; rw [← Ny114.out] at ho97)); have n0_ := Aside0.mk (Kd.N_elder' (by (with_reducible repeat (first | apply Kd.N_alloc | apply Kd.N_drewN | apply Kd.N_drew)); exact HO109.out) (Kd.N_base ho97) hb); have n1_ := Aside0.mk (Kd.R_below (by (with_reducible repeat (first | apply Kd.R_alloc | apply Kd.R_drewN | apply Kd.R_drew)); exact HO113.out) hb); have n2_ := Aside0.mk (Kd.N_lower (Kd.N_mono (ok' := fun k_ => some k_ ≠ (.slice Ao94 y107.length co94 : Value).ownBlock ∧ some k_ ≠ (v112 : Value).ownBlock) ho97 (fun k_ hk_ => ⟨(Kd.fresh' (Kd.N_lt (by (with_reducible repeat (first | apply Kd.N_alloc | apply Kd.N_drewN | apply Kd.N_drew)); exact HO109.out)) k_ hk_), (Kd.fresh' (Kd.R_lt (by (with_reducible repeat (first | apply Kd.R_alloc | apply Kd.R_drewN | apply Kd.R_drew)); exact HO113.out)) k_ hk_)⟩)) (below_size (by repeat (first | (with_reducible first | exact HB.out | apply below_alloc | apply pw_below_drewN | apply below_drew1) | exact HB.out)))); have n3_ := Aside0.mk (below_step (by repeat (first | (with_reducible first | exact HB.out | apply below_alloc | apply pw_below_drewN | apply below_drew1) | exact HB.out)) hb); clear HO109; clear HO113; clear HB; have HO109 := n0_; have HO113 := n1_; have HO116 := n2_; have HB := n3_; clear n0_ n1_ n2_ n3_; clear hb ho97; obtain ⟨Ao98, co98, eo98⟩ := Kd.N_slice HO116.out; subst eo98) | ((with_reducible refine gate_callee (f := 17) rfl ?_); refine goesL_ (some 14) rfl rfl Try.func17 (by kernel_rfl) rfl #[.slice Ao98 y114.length co98] rfl (by (try simp only [List.map_toArray, List.map_cons, List.map_nil]); first | done | rfl | (simp only [List.length_drop, List.length_take]; rfl)) ?_; (with_reducible refine (gap_Coalesce.calls _ _ y114 t117 t118 _ ?side1 ?side2 A3.out).mono ?_); (case side1 => repeat (first | exact (Kd.N_reads' HO116.out).2.2 | (with_reducible refine Kd.C_alloc ?_ _) | (with_reducible refine Kd.C_drewN ?_ _) | (with_reducible refine Kd.C_drew ?_))); (case side2 => exact (Kd.N_reads' HO116.out).2.1); rintro e w99 ⟨v119, rfl, ho0, hb⟩; refine ⟨_, rfl, ?_⟩; have n0_ := Aside0.mk (Kd.N_elder' (by (with_reducible repeat (first | apply Kd.N_alloc | apply Kd.N_drewN | apply Kd.N_drew)); exact HO109.out) (Kd.R_base ho0) hb); have n1_ := Aside0.mk (Kd.R_elder' (by (with_reducible repeat (first | apply Kd.R_alloc | apply Kd.R_drewN | apply Kd.R_drew)); exact HO113.out) (Kd.R_base ho0) hb); have n2_ := Aside0.mk (Kd.N_elder' (by (with_reducible repeat (first | apply Kd.N_alloc | apply Kd.N_drewN | apply Kd.N_drew)); exact HO116.out) (Kd.R_base ho0) hb); have n3_ := Aside0.mk (Kd.R_lower (Kd.R_new' ho0 (Kd.R_lt (by (with_reducible repeat (first | apply Kd.R_alloc | apply Kd.R_drewN | apply Kd.R_drew)); exact HO113.out))) (below_size (by repeat (first | (with_reducible first | exact HB.out | apply below_alloc | apply pw_below_drewN | apply below_drew1) | exact HB.out)))); have n4_ := Aside0.mk (below_step (by repeat (first | (with_reducible first | exact HB.out | apply below_alloc | apply pw_below_drewN | apply below_drew1) | exact HB.out)) hb); clear HO109; clear HO113; clear HO116; clear HB; have HO109 := n0_; have HO113 := n1_; have HO116 := n2_; have HO120 := n3_; have HB := n4_; clear n0_ n1_ n2_ n3_ n4_; (try clear hb); (try clear hb2); (try clear hk); (try clear hi); (try clear ho0)))
      go_ret
      exact ⟨by first | rfl | (simp [errW_none, errW_some] <;> rfl) | (simp [*, errW_none, errW_some] <;> rfl), by repeat (first | (with_reducible first | exact HB.out | apply below_alloc | apply pw_below_drewN | apply below_drew1) | exact HB.out)⟩
  · rw [if_neg c2] at H
    exact absurd H (by simp)

end Go.Proofs.Ytnlekganlliikaa.X
-- part XRn4
namespace Go.Proofs.Ytnlekganlliikaa.X
open Go.RowKit Go.Proofs.YtnlekganlliikaaW.PrintWords Go.Proofs.YtnlekganlliikaaW.PrintLast Go.Proofs.YtnlekganlliikaaW.PrintMore
attribute [local go_sem] max2_int min2_int max_two min_two max_three min_three max_four min_four   -- for this text's walks alone
set_option linter.unusedVariables false
set_option linter.unusedSimpArgs false
attribute [local go_sem high] eqA37
mutual
def sennitref01_Few.l0 : Nat → List ByteArray → Int → Int → Option (Bool)
  | 0, _, _, _ => none
  | k + 1, x0, x1, x5 => if x5 < (x0.length : Int) then (sennitref01_Few.j1 k x0 x1 x5 (decide (x5 ≤ x1))) else (sennitref01_Few.j1 k x0 x1 x5 false)
def sennitref01_Few.j1 : Nat → List ByteArray → Int → Int → Bool → Option (Bool)
  | 0, _, _, _, _ => none
  | k + 1, x0, x1, x5, x14 => if x14 = true then (if 0 ≤ x5 then (if x5 < (x0.length : Int) then (if ((rdOf ByteArray.empty x0 x5).size : Int) > 100 then (some false) else (sennitref01_Few.l0 k x0 x1 (wrap64 (x5 + 1)))) else (none)) else (none)) else (some (decide ((x0.length : Int) ≤ x1)))
end
def sennitref01_Few.f (k : Nat) (l0 : List ByteArray) (a1 : Int) : Option (Bool) := sennitref01_Few.l0 k l0 a1 0
set_option maxHeartbeats 8000000 in
set_option maxRecDepth 100000 in
theorem sennitref01_Few.calls (k : Nat) (A0 : Option Addr) (c0 : Nat) (l0 : List ByteArray) (a1 : Int) (r : Bool) (w : World) (hr0 : Kd.C Kd.string w A0 l0.length l0) (hc0 : l0.length ≤ c0) (h : sennitref01_Few.f k l0 a1 = some r) :
    Calls Try.prog 22 #[.slice A0 l0.length c0, .int .i64 a1] w fun e w' => e = .returned (.bool r) ∧ Drawn0 w w' := by
  have HR0 := Aside0.mk hr0
  have HC0 := Aside0.mk hc0
  clear hr0 hc0
  have H : (sennitref01_Few.l0 k l0 a1 0) = some r := h
  clear h
  have H' := Aside0.mk H
  clear H
  go_enter Try.func22, Try.ntmps22
  go_wp2
  go_loopg [5] k (fun kq v5 w' => ∃ (x5_1 : Int), v5 = .int .i64 x5_1 ∧ Aside0 (sennitref01_Few.l0 kq l0 a1 x5_1 = some r) ∧ Aside0 (kq ≤ k) ∧ Drawn0 w w')
  case atStart => exact ⟨(0), (by first | rfl | (simp; done) | (simp [*]; done)), H', ⟨Nat.le_refl _⟩, by repeat (first | exact Drawn0.refl _ | apply Drawn0.step)⟩
  case round =>
    clear H'
    try clear c2
    try clear p2
    obtain ⟨x5_1, rfl, HA, HK1, ⟨m1, rfl⟩⟩ := hrel
    cases gk with
    | zero => exact absurd HA.out (by simp [sennitref01_Few.l0])
    | succ k1 =>
      have H := HA.out
      clear HA
      simp only [sennitref01_Few.l0] at H
      have HC3 := Aside0.mk H
      clear H
      go_upto_region 2 with (fail)
      go_cut [14] (fun v14 wc => ∃ (kq : Nat) (x14_2 : Bool), v14 = .bool x14_2 ∧ Aside0 (sennitref01_Few.j1 kq l0 a1 x5_1 x14_2 = some r) ∧ Aside0 (kq ≤ k1) ∧ Drawn0 w wc)
      case first =>
        have H := HC3.out
        clear HC3
        by_cases c4 : x5_1 < (l0.length : Int)
        · rw [if_pos c4] at H
          have c4b0 : decide (x5_1 < (l0.length : Int)) = true := decide_eq_true c4
          clear c4
          (first | rw [c4b0] | (simp only [i64_w, i32_w]; rw [c4b0]) | skip)
          have H' := Aside0.mk H
          clear H
          go_wp2
          go_meet
          case rel => exact ⟨_, (decide (x5_1 ≤ a1)), (by first | rfl | (simp; done) | (simp [*]; done)), H', ⟨by have := HK1.out; first | omega | exact Nat.le_refl _⟩, by repeat (first | exact Drawn0.refl _ | apply Drawn0.step)⟩
        · rw [if_neg c4] at H
          have c4b0 : decide (x5_1 < (l0.length : Int)) = false := decide_eq_false c4
          clear c4
          (first | rw [c4b0] | (simp only [i64_w, i32_w]; rw [c4b0]) | skip)
          have H' := Aside0.mk H
          clear H
          go_wp2
          go_meet
          case rel => exact ⟨_, (false), (by first | rfl | (simp; done) | (simp [*]; done)), H', ⟨by have := HK1.out; first | omega | exact Nat.le_refl _⟩, by repeat (first | exact Drawn0.refl _ | apply Drawn0.step)⟩
      case rest =>
        clear HC3
        try clear c2
        try clear p2
        try clear c4
        try clear c4b0
        try clear p2
        obtain ⟨kq, x14_2, rfl, HA, HJ2, ⟨mc2, rfl⟩⟩ := hcut
        cases kq with
        | zero => exact absurd HA.out (by simp [sennitref01_Few.j1])
        | succ kj2 =>
          have H := HA.out
          clear HA
          simp only [sennitref01_Few.j1] at H
          by_cases c5 : x14_2 = true
          · subst c5
            have H1 : (if 0 ≤ x5_1 then (if x5_1 < (l0.length : Int) then (if ((rdOf ByteArray.empty l0 x5_1).size : Int) > 100 then (some false) else (sennitref01_Few.l0 kj2 l0 a1 (wrap64 (x5_1 + 1)))) else (none)) else (none)) = some r := by rw [if_pos rfl] at H; exact H
            clear H
            have H := H1
            clear H1
            by_cases c6 : 0 ≤ x5_1
            · rw [if_pos c6] at H
              have c6b0 : decide (0 ≤ x5_1) = true := decide_eq_true c6
              clear c6
              by_cases c7 : x5_1 < (l0.length : Int)
              · rw [if_pos c7] at H
                have c7b0 : decide (x5_1 < (l0.length : Int)) = true := decide_eq_true c7
                clear c7
                by_cases c8 : ((rdOf ByteArray.empty l0 x5_1).size : Int) > 100
                · rw [if_pos c8] at H
                  have c8b0 : decide (100 < ((rdOf ByteArray.empty l0 x5_1).size : Int)) = true := decide_eq_true c8
                  have c8b1 : decide (100 < (rdOf ByteArray.empty l0 x5_1).size) = true := decide_eq_true (by omega)
                  clear c8
                  obtain rfl := Option.some.inj H
                  have p201 : 0 ≤ (x5_1 : Int) := of_decide_eq_true (by first | (with_reducible assumption) | assumption)
                  have q201 : x5_1 < (l0.length : Int) := of_decide_eq_true (by first | (with_reducible assumption) | assumption)
                  obtain ⟨ad201, e201, hx201_0⟩ := Kd.at_string HR0.out x5_1 p201 q201
                  cases e201
                  replace p201 := eq_true p201
                  replace q201 := eq_true q201
                  go_wp2
                  go_ret
                  exact ⟨by first | rfl | (simp; done) | (simp [*]; done), by repeat (first | exact Drawn0.refl _ | apply Drawn0.step)⟩
                · rw [if_neg c8] at H
                  have c8b0 : decide (100 < ((rdOf ByteArray.empty l0 x5_1).size : Int)) = false := decide_eq_false c8
                  have c8b1 : decide (100 < (rdOf ByteArray.empty l0 x5_1).size) = false := decide_eq_false (by omega)
                  clear c8
                  have H' := Aside0.mk H
                  clear H
                  have p201 : 0 ≤ (x5_1 : Int) := of_decide_eq_true (by first | (with_reducible assumption) | assumption)
                  have q201 : x5_1 < (l0.length : Int) := of_decide_eq_true (by first | (with_reducible assumption) | assumption)
                  obtain ⟨ad201, e201, hx201_0⟩ := Kd.at_string HR0.out x5_1 p201 q201
                  cases e201
                  replace p201 := eq_true p201
                  replace q201 := eq_true q201
                  go_wp2
                  go_roundg kj2
                  case measure => have := HK1.out; have := HJ2.out; omega
                  case rel => exact ⟨(wrap64 (x5_1 + 1)), (by first | rfl | (simp; done) | (simp [*]; done)), H', ⟨by have := HK1.out; have := HJ2.out; omega⟩, by repeat (first | exact Drawn0.refl _ | apply Drawn0.step)⟩
              · rw [if_neg c7] at H
                exact absurd H (by simp)
            · rw [if_neg c6] at H
              exact absurd H (by simp)
          · replace c5 := Bool.eq_false_iff.mpr c5
            subst c5
            have H1 : (some (decide ((l0.length : Int) ≤ a1))) = some r := by rw [if_neg (show ¬ (false = true) by decide)] at H; exact H
            clear H
            have H := H1
            clear H1
            obtain rfl := Option.some.inj H
            go_wp2
            go_ret
            exact ⟨by first | rfl | (simp; done) | (simp [*]; done), by repeat (first | exact Drawn0.refl _ | apply Drawn0.step)⟩

end Go.Proofs.Ytnlekganlliikaa.X
-- part XTn1
namespace Go.Proofs.Ytnlekganlliikaa.X
open Go.RowKit Go.Proofs.YtnlekganlliikaaW.PrintWords Go.Proofs.YtnlekganlliikaaW.PrintLast Go.Proofs.YtnlekganlliikaaW.PrintMore
attribute [local go_sem] max2_int min2_int max_two min_two max_three min_three max_four min_four   -- for this text's walks alone
set_option linter.unusedVariables false
set_option linter.unusedSimpArgs false
mutual
def sennitlaw19_GapSame.l0 : Nat → List ByteArray → Bool → Int → List (List ByteArray) → ByteArray → Int → Option (Bool)
  | 0, _, _, _, _, _, _ => none
  | k + 1, x0, x5, x6, x7, x8, x9 => if x9 < x6 then (if x7.length < 5864062014805 then (if x8.size + 1 ≤ 9223372036854775807 then (sennitlaw19_GapSame.l0 k x0 x5 x6 (x7 ++ [x0]) (x8 ++ (⟨#[45]⟩ : ByteArray)) (wrap64 (x9 + 1))) else (none)) else (none)) else ((gap_Coalesce.f x7).bind fun bt106 => (sennitlaw19_GapSame.l1 k x0 x5 x8 bt106.1 bt106.2 0))
def sennitlaw19_GapSame.l1 : Nat → List ByteArray → Bool → ByteArray → List (S37) → Int → Int → Option (Bool)
  | 0, _, _, _, _, _, _ => none
  | k + 1, x0, x5, x8, x10, x11, x12 => if x12 < (x10.length : Int) then (sennitlaw19_GapSame.j2 k x0 x5 x8 x10 x11 x12 (decide (x12 < (x0.length : Int)))) else (sennitlaw19_GapSame.j2 k x0 x5 x8 x10 x11 x12 false)
def sennitlaw19_GapSame.j2 : Nat → List ByteArray → Bool → ByteArray → List (S37) → Int → Int → Bool → Option (Bool)
  | 0, _, _, _, _, _, _, _ => none
  | k + 1, x0, x5, x8, x10, x11, x12, x47 => if x47 = true then (if 0 ≤ x12 then (if x12 < (x10.length : Int) then (if ((rd_T37 x10 x12).f0).toList = x8.toList then (if x12 < (x0.length : Int) then (if ((rd_T37 x10 x12).f1).toList = (rdOf ByteArray.empty x0 x12).toList then (sennitlaw19_GapSame.l1 k x0 x5 x8 x10 x11 (wrap64 (x12 + 1))) else (some false)) else (none)) else (some false)) else (none)) else (none)) else (if x5 = true then (if x11 = 0 then (some ((x10.length : Int) == (x0.length : Int))) else (some false)) else (some false))
end
def sennitlaw19_GapSame.f (k : Nat) (l0 : List ByteArray) (a1 : Int) : Option (Bool) := (sennitlaw19_awake.f).bind fun t101 => ((sennitref01_Few.f k l0 20).bind fun t102 => (if t102 = true then (sennitlaw19_GapSame.l0 k l0 t101 (wrap64 (1 + (Int.tmod (wrap64 (a1)) 16))) ([] : List (List ByteArray)) (⟨#[]⟩ : ByteArray) 0) else (some t101)))
set_option maxHeartbeats 8000000 in
set_option maxRecDepth 100000 in
theorem sennitlaw19_GapSame.calls (k : Nat) (P0_ : Nat → Prop) (A0 : Option Addr) (c0 : Nat) (l0 : List ByteArray) (a1 : Int) (r : Bool) (w : World) (hs0 : Kd.V Kd.string 9 w w.heap.size (fun k_ => P0_ k_) (.slice A0 l0.length c0) l0) (h : sennitlaw19_GapSame.f k l0 a1 = some r) :
    Calls Try.prog 5 #[.slice A0 l0.length c0, .int .u8 a1] w fun e w' => e = .returned (.bool r) ∧ Below w.heap.size w w' := by
  have HO0 := Aside0.mk (show Kd.V Kd.string 9 w w.heap.size (fun k_ => (P0_ k_ ∨ w.heap.size ≤ k_)) (.slice A0 l0.length c0) l0 from Kd.V_mono hs0 (fun k_ hk => .inl hk))
  have HB := Aside0.mk (Below.refl w.heap.size w)
  have H : ((sennitlaw19_awake.f).bind fun t101 => ((sennitref01_Few.f k l0 20).bind fun t102 => (if t102 = true then (sennitlaw19_GapSame.l0 k l0 t101 (wrap64 (1 + (Int.tmod (wrap64 (a1)) 16))) ([] : List (List ByteArray)) (⟨#[]⟩ : ByteArray) 0) else (some t101)))) = some r := h
  clear h
  replace H := Option.bind_eq_some_iff.mp H
  obtain ⟨t101, A30, H⟩ := H
  replace H : ((sennitref01_Few.f k l0 20).bind fun t102 => (if t102 = true then (sennitlaw19_GapSame.l0 k l0 t101 (wrap64 (1 + (Int.tmod (wrap64 (a1)) 16))) ([] : List (List ByteArray)) (⟨#[]⟩ : ByteArray) 0) else (some t101))) = some r := H
  have A3 := Aside0.mk A30
  clear A30
  replace H := Option.bind_eq_some_iff.mp H
  obtain ⟨t102, A40, H⟩ := H
  replace H : (if t102 = true then (sennitlaw19_GapSame.l0 k l0 t101 (wrap64 (1 + (Int.tmod (wrap64 (a1)) 16))) ([] : List (List ByteArray)) (⟨#[]⟩ : ByteArray) 0) else (some t101)) = some r := H
  have A4 := Aside0.mk A40
  clear A40
  by_cases c5 : t102 = true
  · subst c5
    have H1 : (sennitlaw19_GapSame.l0 k l0 t101 (wrap64 (1 + (Int.tmod (wrap64 (a1)) 16))) ([] : List (List ByteArray)) (⟨#[]⟩ : ByteArray) 0) = some r := by rw [if_pos rfl] at H; exact H
    clear H
    have H := H1
    clear H1
    have H' := Aside0.mk H
    clear H
    go_enter Try.func5, Try.ntmps5
    go_wp2_with (first | (go_at_call 15; (with_reducible refine (sennitlaw19_awake.calls  t101 _ A3.out).mono ?_); rintro e w6 ⟨rfl, hb⟩; have n0_ := Aside0.mk (Kd.V_below (by (with_reducible repeat (first | apply Kd.V_alloc | apply Kd.V_drewN | apply Kd.V_drew)); exact HO0.out) hb); have n1_ := Aside0.mk (below_step (by repeat (first | (with_reducible first | exact HB.out | apply below_alloc | apply pw_below_drewN | apply below_drew1) | exact HB.out)) hb); clear HO0; clear HB; have HO0 := n0_; have HB := n1_; clear n0_ n1_; (try clear hb); (try clear hb2); (try clear hk); (try clear hi)) | (go_at_call 22; (with_reducible refine (sennitref01_Few.calls k _ _ l0 20 true _ ?side1 ?side2 A4.out).mono ?_); (case side1 => repeat (first | exact (Kd.V_reads' HO0.out).2.2 | (with_reducible refine Kd.C_alloc ?_ _) | (with_reducible refine Kd.C_drewN ?_ _) | (with_reducible refine Kd.C_drew ?_))); (case side2 => exact (Kd.V_reads' HO0.out).2.1); rintro e w' ⟨rfl, ⟨nd, rfl⟩⟩; (try first | exact ⟨rfl, _, World.drewN_drewN _ _ _⟩ | exact ⟨rfl, _, Eq.trans (World.drewN_drewN _ _ _) (congrArg (World.drewN _) (Nat.add_assoc _ _ _))⟩)))
    repeat (go_quiet (first | (go_at_call 15; (with_reducible refine (sennitlaw19_awake.calls  t101 _ A3.out).mono ?_); rintro e w6 ⟨rfl, hb⟩; have n0_ := Aside0.mk (Kd.V_below (by (with_reducible repeat (first | apply Kd.V_alloc | apply Kd.V_drewN | apply Kd.V_drew)); exact HO0.out) hb); have n1_ := Aside0.mk (below_step (by repeat (first | (with_reducible first | exact HB.out | apply below_alloc | apply pw_below_drewN | apply below_drew1) | exact HB.out)) hb); clear HO0; clear HB; have HO0 := n0_; have HB := n1_; clear n0_ n1_; (try clear hb); (try clear hb2); (try clear hk); (try clear hi)) | (go_at_call 22; (with_reducible refine (sennitref01_Few.calls k _ _ l0 20 true _ ?side1 ?side2 A4.out).mono ?_); (case side1 => repeat (first | exact (Kd.V_reads' HO0.out).2.2 | (with_reducible refine Kd.C_alloc ?_ _) | (with_reducible refine Kd.C_drewN ?_ _) | (with_reducible refine Kd.C_drew ?_))); (case side2 => exact (Kd.V_reads' HO0.out).2.1); rintro e w' ⟨rfl, ⟨nd, rfl⟩⟩; (try first | exact ⟨rfl, _, World.drewN_drewN _ _ _⟩ | exact ⟨rfl, _, Eq.trans (World.drewN_drewN _ _ _) (congrArg (World.drewN _) (Nat.add_assoc _ _ _))⟩))); try go_wp2_with (first | (go_at_call 15; (with_reducible refine (sennitlaw19_awake.calls  t101 _ A3.out).mono ?_); rintro e w6 ⟨rfl, hb⟩; have n0_ := Aside0.mk (Kd.V_below (by (with_reducible repeat (first | apply Kd.V_alloc | apply Kd.V_drewN | apply Kd.V_drew)); exact HO0.out) hb); have n1_ := Aside0.mk (below_step (by repeat (first | (with_reducible first | exact HB.out | apply below_alloc | apply pw_below_drewN | apply below_drew1) | exact HB.out)) hb); clear HO0; clear HB; have HO0 := n0_; have HB := n1_; clear n0_ n1_; (try clear hb); (try clear hb2); (try clear hk); (try clear hi)) | (go_at_call 22; (with_reducible refine (sennitref01_Few.calls k _ _ l0 20 true _ ?side1 ?side2 A4.out).mono ?_); (case side1 => repeat (first | exact (Kd.V_reads' HO0.out).2.2 | (with_reducible refine Kd.C_alloc ?_ _) | (with_reducible refine Kd.C_drewN ?_ _) | (with_reducible refine Kd.C_drew ?_))); (case side2 => exact (Kd.V_reads' HO0.out).2.1); rintro e w' ⟨rfl, ⟨nd, rfl⟩⟩; (try first | exact ⟨rfl, _, World.drewN_drewN _ _ _⟩ | exact ⟨rfl, _, Eq.trans (World.drewN_drewN _ _ _) (congrArg (World.drewN _) (Nat.add_assoc _ _ _))⟩))))
    go_loopg [7, 8, 9] k (fun kq v7 v8 v9 w' => ∃ (x7_1 : List (List ByteArray)) (x8_1 : ByteArray) (x9_1 : Int), v8 = .string x8_1 ∧ v9 = .int .i64 x9_1 ∧ Aside0 (sennitlaw19_GapSame.l0 kq l0 t101 (wrap64 (1 + (Int.tmod (wrap64 (a1)) 16))) x7_1 x8_1 x9_1 = some r) ∧ Aside0 (kq ≤ k) ∧ Aside0 (Kd.V Kd.string 9 w' w.heap.size (fun k_ => (P0_ k_ ∨ w.heap.size ≤ k_) ∧ some k_ ≠ (v7 : Value).ownBlock) (.slice A0 l0.length c0) l0) ∧ Aside0 (Kd.N (Kd.slice 9 Kd.string) 34 w' w.heap.size (fun k_ => (P0_ k_ ∨ w.heap.size ≤ k_)) v7 x7_1) ∧ Aside0 (Below w.heap.size w w'))
    case atStart => exact ⟨(([] : List (List ByteArray))), ((⟨#[]⟩ : ByteArray)), (0), (by first | rfl | (simp; done) | (simp [*]; done)), (by first | rfl | (simp; done) | (simp [*]; done)), H', ⟨Nat.le_refl _⟩, ⟨by (with_reducible repeat (first | apply Kd.V_alloc | apply Kd.V_drewN | apply Kd.V_drew)); exact Kd.V_mono HO0.out (fun _ hk => ⟨hk, (by simp [Value.ownBlock])⟩)⟩, ⟨by first | exact Kd.S_nil _ _ _ _ _ | exact Kd.N_nil _ _ _ _ _ | exact Kd.V_nil _ _ _ _ _ | exact Kd.Q_nil _ _ _ _ _ | exact Kd.R_nil _ _ _ _ _⟩, ⟨by repeat (first | (with_reducible first | exact HB.out | apply below_alloc | apply pw_below_drewN | apply below_drew1) | exact HB.out)⟩⟩
    case round =>
      clear H'
      try clear p2
      try clear c5
      try clear p6
      obtain ⟨x7_1, x8_1, x9_1, rfl, rfl, HA, HK1, HO_0, HO_7, HB⟩ := hrel
      cases gk with
      | zero => exact absurd HA.out (by simp [sennitlaw19_GapSame.l0])
      | succ k1 =>
        have H := HA.out
        clear HA
        simp only [sennitlaw19_GapSame.l0] at H
        by_cases c7 : x9_1 < (wrap64 (1 + (Int.tmod (wrap64 (a1)) 16)))
        · rw [if_pos c7] at H
          have c7b0 : decide (x9_1 < (wrap64 (1 + (Int.tmod (wrap64 (a1)) 16)))) = true := decide_eq_true c7
          clear c7
          by_cases c8 : x7_1.length < 5864062014805
          · rw [if_pos c8] at H
            have LMc8 := Aside0.mk c8
            clear c8
            obtain ⟨y103, hy103⟩ : ∃ y_ : List (List ByteArray), y_ = (x7_1 ++ [l0]) := ⟨_, rfl⟩
            replace H : (if x8_1.size + 1 ≤ 9223372036854775807 then (sennitlaw19_GapSame.l0 k1 l0 t101 (wrap64 (1 + (Int.tmod (wrap64 (a1)) 16))) y103 (x8_1 ++ (⟨#[45]⟩ : ByteArray)) (wrap64 (x9_1 + 1))) else (none)) = some r := by first | (rw [hy103]; with_reducible exact H) | (have H2_ := (Option.bind_some _ _).symm.trans H; rw [hy103]; with_reducible exact H2_) | (have H2_ := (Option.bind_some _ _).symm.trans H; with_reducible exact H2_) | with_reducible exact H | (rw [hy103]; exact H) | exact H
            have Ny103 := Aside0.mk hy103
            clear hy103
            by_cases c9 : x8_1.size + 1 ≤ 9223372036854775807
            · rw [if_pos c9] at H
              have c9b0 := eq_true c9
              have c9b1 : decide (x8_1.size + 1 ≤ 9223372036854775807) = true := decide_eq_true c9
              try have c9b2 : (9223372036854775807 < x8_1.size + 1) = False := eq_false (Nat.not_lt.2 c9)
              have H' := Aside0.mk H
              clear H
              go_wp2_with (first | ((with_reducible refine gate_builtin (b := .append) (xs := #[.tmp 27, .tmp 29]) rfl ?_); (try (refine gate_guard (by rfl) ?_; dsimp only)); at_builtin; refine Kd.N_append (Kd.slice 9 Kd.string) (w0 := w) w.heap.size rfl (.tmp 27) (.tmp 29) 22 34 (.slice none 0 0) 24 rfl Try.underlying22 info34 rfl (by decide) (by omega) u7 x7_1 l0 [.slice A0 l0.length c0] (fun k_ => (P0_ k_ ∨ w.heap.size ≤ k_)) (fun k_ => ((fun k_ => (P0_ k_ ∨ w.heap.size ≤ k_))) k_ ∧ some k_ ≠ (u7 : Value).ownBlock) rfl rfl ?aP (fun _ hk => hk) ?aF ?aO ?aB ?aS ?aL ?_; (case aP => exact (Kd.FK_slice_mk (Kd.V_reads' (Kd.V_mono (ok' := (fun k_ => ((fun k_ => (P0_ k_ ∨ w.heap.size ≤ k_))) k_ ∧ some k_ ≠ (u7 : Value).ownBlock)) (HO_0.out) (fun k_ hk => ⟨hk.1, hk.2⟩))).2.1 (Kd.V_F (Kd.V_mono (ok' := (fun k_ => ((fun k_ => (P0_ k_ ∨ w.heap.size ≤ k_))) k_ ∧ some k_ ≠ (u7 : Value).ownBlock)) (HO_0.out) (fun k_ hk => ⟨hk.1, hk.2⟩))))); (case aB => exact (by repeat (first | (with_reducible first | exact HB.out | apply below_alloc | apply pw_below_drewN | apply below_drew1) | exact HB.out))); (case aF => exact (fun k_ hk => (.inr (Nat.le_trans (below_size (by repeat (first | (with_reducible first | exact HB.out | apply below_alloc | apply pw_below_drewN | apply below_drew1) | exact HB.out))) hk)))); (case aO => exact (by (with_reducible repeat (first | apply Kd.N_alloc | apply Kd.N_drewN | apply Kd.N_drew)); exact HO_7.out)); (case aS => exact (below_size (by repeat (first | (with_reducible first | exact HB.out | apply below_alloc | apply pw_below_drewN | apply below_drew1) | exact HB.out)))); (case aL => have := LMc8.out; omega); intro v104 w10 ho hb hg hat; rw [← Ny103.out] at ho; have n0_ := Aside0.mk (Kd.V_afterv (ok := (fun k_ => (P0_ k_ ∨ w.heap.size ≤ k_))) (by (with_reducible repeat (first | apply Kd.V_alloc | apply Kd.V_drewN | apply Kd.V_drew)); exact HO_0.out) hg hat); have n1_ := Aside0.mk (hb); have n2_ := Aside0.mk (ho); clear HO_0; clear HB; clear HO_7; have HO_0 := n0_; have HB := n1_; have HO105 := n2_; clear n0_ n1_ n2_; clear ho hb hg hat))
              repeat (go_quiet (first | ((with_reducible refine gate_builtin (b := .append) (xs := #[.tmp 27, .tmp 29]) rfl ?_); (try (refine gate_guard (by rfl) ?_; dsimp only)); at_builtin; refine Kd.N_append (Kd.slice 9 Kd.string) (w0 := w) w.heap.size rfl (.tmp 27) (.tmp 29) 22 34 (.slice none 0 0) 24 rfl Try.underlying22 info34 rfl (by decide) (by omega) u7 x7_1 l0 [.slice A0 l0.length c0] (fun k_ => (P0_ k_ ∨ w.heap.size ≤ k_)) (fun k_ => ((fun k_ => (P0_ k_ ∨ w.heap.size ≤ k_))) k_ ∧ some k_ ≠ (u7 : Value).ownBlock) rfl rfl ?aP (fun _ hk => hk) ?aF ?aO ?aB ?aS ?aL ?_; (case aP => exact (Kd.FK_slice_mk (Kd.V_reads' (Kd.V_mono (ok' := (fun k_ => ((fun k_ => (P0_ k_ ∨ w.heap.size ≤ k_))) k_ ∧ some k_ ≠ (u7 : Value).ownBlock)) (HO_0.out) (fun k_ hk => ⟨hk.1, hk.2⟩))).2.1 (Kd.V_F (Kd.V_mono (ok' := (fun k_ => ((fun k_ => (P0_ k_ ∨ w.heap.size ≤ k_))) k_ ∧ some k_ ≠ (u7 : Value).ownBlock)) (HO_0.out) (fun k_ hk => ⟨hk.1, hk.2⟩))))); (case aB => exact (by repeat (first | (with_reducible first | exact HB.out | apply below_alloc | apply pw_below_drewN | apply below_drew1) | exact HB.out))); (case aF => exact (fun k_ hk => (.inr (Nat.le_trans (below_size (by repeat (first | (with_reducible first | exact HB.out | apply below_alloc | apply pw_below_drewN | apply below_drew1) | exact HB.out))) hk)))); (case aO => exact (by (with_reducible repeat (first | apply Kd.N_alloc | apply Kd.N_drewN | apply Kd.N_drew)); exact HO_7.out)); (case aS => exact (below_size (by repeat (first | (with_reducible first | exact HB.out | apply below_alloc | apply pw_below_drewN | apply below_drew1) | exact HB.out)))); (case aL => have := LMc8.out; omega); intro v104 w10 ho hb hg hat; rw [← Ny103.out] at ho; have n0_ := Aside0.mk (Kd.V_afterv (ok := (fun k_ => (P0_ k_ ∨ w.heap.size ≤ k_))) (by (with_reducible repeat (first | apply Kd.V_alloc | apply Kd.V_drewN | apply Kd.V_drew)); exact HO_0.out) hg hat); have n1_ := Aside0.mk (hb); have n2_ := Aside0.mk (ho); clear HO_0; clear HB; clear HO_7; have HO_0 := n0_; have HB := n1_; have HO105 := n2_; clear n0_ n1_ n2_; clear ho hb hg hat)); try go_wp2_with (first | ((with_reducible refine gate_builtin (b := .append) (xs := #[.tmp 27, .tmp 29]) rfl ?_); (try (refine gate_guard (by rfl) ?_; dsimp only)); at_builtin; refine Kd.N_append (Kd.slice 9 Kd.string) (w0 := w) w.heap.size rfl (.tmp 27) (.tmp 29) 22 34 (.slice none 0 0) 24 rfl Try.underlying22 info34 rfl (by decide) (by omega) u7 x7_1 l0 [.slice A0 l0.length c0] (fun k_ => (P0_ k_ ∨ w.heap.size ≤ k_)) (fun k_ => ((fun k_ => (P0_ k_ ∨ w.heap.size ≤ k_))) k_ ∧ some k_ ≠ (u7 : Value).ownBlock) rfl rfl ?aP (fun _ hk => hk) ?aF ?aO ?aB ?aS ?aL ?_; (case aP => exact (Kd.FK_slice_mk (Kd.V_reads' (Kd.V_mono (ok' := (fun k_ => ((fun k_ => (P0_ k_ ∨ w.heap.size ≤ k_))) k_ ∧ some k_ ≠ (u7 : Value).ownBlock)) (HO_0.out) (fun k_ hk => ⟨hk.1, hk.2⟩))).2.1 (Kd.V_F (Kd.V_mono (ok' := (fun k_ => ((fun k_ => (P0_ k_ ∨ w.heap.size ≤ k_))) k_ ∧ some k_ ≠ (u7 : Value).ownBlock)) (HO_0.out) (fun k_ hk => ⟨hk.1, hk.2⟩))))); (case aB => exact (by repeat (first | (with_reducible first | exact HB.out | apply below_alloc | apply pw_below_drewN | apply below_drew1) | exact HB.out))); (case aF => exact (fun k_ hk => (.inr (Nat.le_trans (below_size (by repeat (first | (with_reducible first | exact HB.out | apply below_alloc | apply pw_below_drewN | apply below_drew1) | exact HB.out))) hk)))); (case aO => exact (by (with_reducible repeat (first | apply Kd.N_alloc | apply Kd.N_drewN | apply Kd.N_drew)); exact HO_7.out)); (case aS => exact (below_size (by repeat (first | (with_reducible first | exact HB.out | apply below_alloc | apply pw_below_drewN | apply below_drew1) | exact HB.out)))); (case aL => have := LMc8.out; omega); intro v104 w10 ho hb hg hat; rw [← Ny103.out] at ho; have n0_ := Aside0.mk (Kd.V_afterv (ok := (fun k_ => (P0_ k_ ∨ w.heap.size ≤ k_))) (by (with_reducible repeat (first | apply Kd.V_alloc | apply Kd.V_drewN | apply Kd.V_drew)); exact HO_0.out) hg hat); have n1_ := Aside0.mk (hb); have n2_ := Aside0.mk (ho); clear HO_0; clear HB; clear HO_7; have HO_0 := n0_; have HB := n1_; have HO105 := n2_; clear n0_ n1_ n2_; clear ho hb hg hat)))
              go_roundg k1
              case measure => have := HK1.out; omega
              case rel => exact ⟨(y103), (x8_1 ++ (⟨#[45]⟩ : ByteArray)), (wrap64 (x9_1 + 1)), (by first | rfl | (simp; done) | (simp [*]; done)), (by first | rfl | (simp; done) | (simp [*]; done)), H', ⟨by have := HK1.out; omega⟩, ⟨by (with_reducible repeat (first | apply Kd.V_alloc | apply Kd.V_drewN | apply Kd.V_drew)); exact HO_0.out⟩, ⟨by (with_reducible repeat (first | apply Kd.N_alloc | apply Kd.N_drewN | apply Kd.N_drew)); exact HO105.out⟩, ⟨by repeat (first | (with_reducible first | exact HB.out | apply below_alloc | apply pw_below_drewN | apply below_drew1) | exact HB.out)⟩⟩
            · rw [if_neg c9] at H
              exact absurd H (by simp)
          · rw [if_neg c8] at H
            exact absurd H (by simp)
        · rw [if_neg c7] at H
          have c7b0 : decide (x9_1 < (wrap64 (1 + (Int.tmod (wrap64 (a1)) 16)))) = false := decide_eq_false c7
          clear c7
          replace H := Option.bind_eq_some_iff.mp H
          obtain ⟨⟨t106, t107⟩, A110, H⟩ := H
          replace H : (sennitlaw19_GapSame.l1 k1 l0 t101 x8_1 t106 t107 0) = some r := H
          have A11 := Aside0.mk A110
          clear A110
          have H' := Aside0.mk H
          clear H
          obtain ⟨Ao12, co12, eo12⟩ := Kd.N_slice HO_7.out
          subst eo12
          go_wp2_with (first | (go_at_call 17; (with_reducible refine (gap_Coalesce.calls _ _ x7_1 t106 t107 _ ?side1 ?side2 A11.out).mono ?_); (case side1 => repeat (first | exact (Kd.N_reads' HO_7.out).2.2 | (with_reducible refine Kd.C_alloc ?_ _) | (with_reducible refine Kd.C_drewN ?_ _) | (with_reducible refine Kd.C_drew ?_))); (case side2 => exact (Kd.N_reads' HO_7.out).2.1); rintro e w13 ⟨v108, rfl, ho0, hb⟩; have n0_ := Aside0.mk (Kd.V_elder' (by (with_reducible repeat (first | apply Kd.V_alloc | apply Kd.V_drewN | apply Kd.V_drew)); exact HO_0.out) (Kd.R_base ho0) hb); have n1_ := Aside0.mk (Kd.N_elder' (by (with_reducible repeat (first | apply Kd.N_alloc | apply Kd.N_drewN | apply Kd.N_drew)); exact HO_7.out) (Kd.R_base ho0) hb); have n2_ := Aside0.mk (Kd.R_lower (Kd.R_newM (M := fun k_ => (w.heap.size ≤ k_)) ho0 (below_size (by repeat (first | (with_reducible first | exact HB.out | apply below_alloc | apply pw_below_drewN | apply below_drew1) | exact HB.out))) (fun k_ h_ => h_)) (below_size (by repeat (first | (with_reducible first | exact HB.out | apply below_alloc | apply pw_below_drewN | apply below_drew1) | exact HB.out)))); have n3_ := Aside0.mk (below_step (by repeat (first | (with_reducible first | exact HB.out | apply below_alloc | apply pw_below_drewN | apply below_drew1) | exact HB.out)) hb); clear HO_0; clear HO_7; clear HB; have HO_0 := n0_; have HO_7 := n1_; have HO109 := n2_; have HB := n3_; clear n0_ n1_ n2_ n3_; (try clear hb); (try clear hb2); (try clear hk); (try clear hi); (try clear ho0)))
          repeat (go_quiet (first | (go_at_call 17; (with_reducible refine (gap_Coalesce.calls _ _ x7_1 t106 t107 _ ?side1 ?side2 A11.out).mono ?_); (case side1 => repeat (first | exact (Kd.N_reads' HO_7.out).2.2 | (with_reducible refine Kd.C_alloc ?_ _) | (with_reducible refine Kd.C_drewN ?_ _) | (with_reducible refine Kd.C_drew ?_))); (case side2 => exact (Kd.N_reads' HO_7.out).2.1); rintro e w13 ⟨v108, rfl, ho0, hb⟩; have n0_ := Aside0.mk (Kd.V_elder' (by (with_reducible repeat (first | apply Kd.V_alloc | apply Kd.V_drewN | apply Kd.V_drew)); exact HO_0.out) (Kd.R_base ho0) hb); have n1_ := Aside0.mk (Kd.N_elder' (by (with_reducible repeat (first | apply Kd.N_alloc | apply Kd.N_drewN | apply Kd.N_drew)); exact HO_7.out) (Kd.R_base ho0) hb); have n2_ := Aside0.mk (Kd.R_lower (Kd.R_newM (M := fun k_ => (w.heap.size ≤ k_)) ho0 (below_size (by repeat (first | (with_reducible first | exact HB.out | apply below_alloc | apply pw_below_drewN | apply below_drew1) | exact HB.out))) (fun k_ h_ => h_)) (below_size (by repeat (first | (with_reducible first | exact HB.out | apply below_alloc | apply pw_below_drewN | apply below_drew1) | exact HB.out)))); have n3_ := Aside0.mk (below_step (by repeat (first | (with_reducible first | exact HB.out | apply below_alloc | apply pw_below_drewN | apply below_drew1) | exact HB.out)) hb); clear HO_0; clear HO_7; clear HB; have HO_0 := n0_; have HO_7 := n1_; have HO109 := n2_; have HB := n3_; clear n0_ n1_ n2_ n3_; (try clear hb); (try clear hb2); (try clear hk); (try clear hi); (try clear ho0))); try go_wp2_with (first | (go_at_call 17; (with_reducible refine (gap_Coalesce.calls _ _ x7_1 t106 t107 _ ?side1 ?side2 A11.out).mono ?_); (case side1 => repeat (first | exact (Kd.N_reads' HO_7.out).2.2 | (with_reducible refine Kd.C_alloc ?_ _) | (with_reducible refine Kd.C_drewN ?_ _) | (with_reducible refine Kd.C_drew ?_))); (case side2 => exact (Kd.N_reads' HO_7.out).2.1); rintro e w13 ⟨v108, rfl, ho0, hb⟩; have n0_ := Aside0.mk (Kd.V_elder' (by (with_reducible repeat (first | apply Kd.V_alloc | apply Kd.V_drewN | apply Kd.V_drew)); exact HO_0.out) (Kd.R_base ho0) hb); have n1_ := Aside0.mk (Kd.N_elder' (by (with_reducible repeat (first | apply Kd.N_alloc | apply Kd.N_drewN | apply Kd.N_drew)); exact HO_7.out) (Kd.R_base ho0) hb); have n2_ := Aside0.mk (Kd.R_lower (Kd.R_newM (M := fun k_ => (w.heap.size ≤ k_)) ho0 (below_size (by repeat (first | (with_reducible first | exact HB.out | apply below_alloc | apply pw_below_drewN | apply below_drew1) | exact HB.out))) (fun k_ h_ => h_)) (below_size (by repeat (first | (with_reducible first | exact HB.out | apply below_alloc | apply pw_below_drewN | apply below_drew1) | exact HB.out)))); have n3_ := Aside0.mk (below_step (by repeat (first | (with_reducible first | exact HB.out | apply below_alloc | apply pw_below_drewN | apply below_drew1) | exact HB.out)) hb); clear HO_0; clear HO_7; clear HB; have HO_0 := n0_; have HO_7 := n1_; have HO109 := n2_; have HB := n3_; clear n0_ n1_ n2_ n3_; (try clear hb); (try clear hb2); (try clear hk); (try clear hi); (try clear ho0))))
          go_loopg [12] k1 (fun kq v12 w' => ∃ (x12_2 : Int), v12 = .int .i64 x12_2 ∧ Aside0 (sennitlaw19_GapSame.l1 kq l0 t101 x8_1 t106 t107 x12_2 = some r) ∧ Aside0 (kq ≤ k1) ∧ Aside0 (Kd.V Kd.string 9 w' w.heap.size (fun k_ => (P0_ k_ ∨ w.heap.size ≤ k_) ∧ some k_ ≠ (v108 : Value).ownBlock) (.slice A0 l0.length c0) l0) ∧ Aside0 (Kd.R k37 37 w' w.heap.size (fun k_ => (w.heap.size ≤ k_)) v108 t106) ∧ Aside0 (Below w.heap.size w w'))
          case atStart => exact ⟨(0), (by first | rfl | (simp; done) | (simp [*]; done)), H', ⟨Nat.le_refl _⟩, ⟨by (with_reducible repeat (first | apply Kd.V_alloc | apply Kd.V_drewN | apply Kd.V_drew)); exact Kd.V_mono HO_0.out (fun _ hk => ⟨hk.1.1, hk.2⟩)⟩, ⟨by (with_reducible repeat (first | apply Kd.R_alloc | apply Kd.R_drewN | apply Kd.R_drew)); exact Kd.R_mono HO109.out (fun _ hk => hk.1)⟩, ⟨by repeat (first | (with_reducible first | exact HB.out | apply below_alloc | apply pw_below_drewN | apply below_drew1) | exact HB.out)⟩⟩
          case round =>
            clear H'
            try clear p2
            try clear c5
            try clear p6
            try clear c7
            try clear c7b0
            try clear c8
            try clear c9
            try clear c9b0
            try clear c9b1
            try clear c9b2
            try clear p2
            try clear p6
            obtain ⟨x12_2, rfl, HA, HK2, HO_0, HO_10, HB⟩ := hrel
            cases gk with
            | zero => exact absurd HA.out (by simp [sennitlaw19_GapSame.l1])
            | succ k2 =>
              have H := HA.out
              clear HA
              simp only [sennitlaw19_GapSame.l1] at H
              have HC14 := Aside0.mk H
              clear H
              go_upto_region 14 with (fail)
              repeat (go_quiet (fail); go_upto_region 14 with (fail))
              go_cut [47] (fun v47 wc => ∃ (kq : Nat) (x47_13 : Bool), v47 = .bool x47_13 ∧ Aside0 (sennitlaw19_GapSame.j2 kq l0 t101 x8_1 t106 t107 x12_2 x47_13 = some r) ∧ Aside0 (kq ≤ k2) ∧ Aside0 (Kd.V Kd.string 9 wc w.heap.size (fun k_ => (P0_ k_ ∨ w.heap.size ≤ k_) ∧ some k_ ≠ (v108 : Value).ownBlock) (.slice A0 l0.length c0) l0) ∧ Aside0 (Kd.R k37 37 wc w.heap.size (fun k_ => (w.heap.size ≤ k_)) v108 t106) ∧ Aside0 (Below w.heap.size w wc))
              case first =>
                have H := HC14.out
                clear HC14
                by_cases c15 : x12_2 < (t106.length : Int)
                · rw [if_pos c15] at H
                  have c15b0 : decide (x12_2 < (t106.length : Int)) = true := decide_eq_true c15
                  clear c15
                  (first | rw [c15b0] | (simp only [i64_w, i32_w]; rw [c15b0]) | skip)
                  have H' := Aside0.mk H
                  clear H
                  obtain ⟨Ao16, co16, eo16⟩ := Kd.R_slice HO_10.out
                  subst eo16
                  go_wp2
                  repeat (go_quiet (fail); try go_wp2)
                  go_meet
                  case rel => exact ⟨_, (decide (x12_2 < (l0.length : Int))), (by first | rfl | (simp; done) | (simp [*]; done)), H', ⟨by have := HK1.out; have := HK2.out; first | omega | exact Nat.le_refl _⟩, ⟨by (with_reducible repeat (first | apply Kd.V_alloc | apply Kd.V_drewN | apply Kd.V_drew)); exact HO_0.out⟩, ⟨by (with_reducible repeat (first | apply Kd.R_alloc | apply Kd.R_drewN | apply Kd.R_drew)); exact HO_10.out⟩, ⟨by repeat (first | (with_reducible first | exact HB.out | apply below_alloc | apply pw_below_drewN | apply below_drew1) | exact HB.out)⟩⟩
                · rw [if_neg c15] at H
                  have c15b0 : decide (x12_2 < (t106.length : Int)) = false := decide_eq_false c15
                  clear c15
                  (first | rw [c15b0] | (simp only [i64_w, i32_w]; rw [c15b0]) | skip)
                  have H' := Aside0.mk H
                  clear H
                  obtain ⟨Ao17, co17, eo17⟩ := Kd.R_slice HO_10.out
                  subst eo17
                  go_wp2
                  repeat (go_quiet (fail); try go_wp2)
                  go_meet
                  case rel => exact ⟨_, (false), (by first | rfl | (simp; done) | (simp [*]; done)), H', ⟨by have := HK1.out; have := HK2.out; first | omega | exact Nat.le_refl _⟩, ⟨by (with_reducible repeat (first | apply Kd.V_alloc | apply Kd.V_drewN | apply Kd.V_drew)); exact HO_0.out⟩, ⟨by (with_reducible repeat (first | apply Kd.R_alloc | apply Kd.R_drewN | apply Kd.R_drew)); exact HO_10.out⟩, ⟨by repeat (first | (with_reducible first | exact HB.out | apply below_alloc | apply pw_below_drewN | apply below_drew1) | exact HB.out)⟩⟩
              case rest =>
                clear HC14
                try clear c1
                try clear p2
                try clear c5
                try clear p6
                try clear c7
                try clear c7b0
                try clear c8
                try clear c9
                try clear c9b0
                try clear c9b1
                try clear c9b2
                try clear c15
                try clear c15b0
                try clear p2
                try clear p6
                obtain ⟨kq, x47_13, rfl, HA, HJ13, HO_0, HO_10, HB⟩ := hcut
                cases kq with
                | zero => exact absurd HA.out (by simp [sennitlaw19_GapSame.j2])
                | succ kj13 =>
                  have H := HA.out
                  clear HA
                  simp only [sennitlaw19_GapSame.j2] at H
                  by_cases c18 : x47_13 = true
                  · subst c18
                    have H1 : (if 0 ≤ x12_2 then (if x12_2 < (t106.length : Int) then (if ((rd_T37 t106 x12_2).f0).toList = x8_1.toList then (if x12_2 < (l0.length : Int) then (if ((rd_T37 t106 x12_2).f1).toList = (rdOf ByteArray.empty l0 x12_2).toList then (sennitlaw19_GapSame.l1 kj13 l0 t101 x8_1 t106 t107 (wrap64 (x12_2 + 1))) else (some false)) else (none)) else (some false)) else (none)) else (none)) = some r := by rw [if_pos rfl] at H; exact H
                    clear H
                    have H := H1
                    clear H1
                    by_cases c19 : 0 ≤ x12_2
                    · rw [if_pos c19] at H
                      have c19b0 : decide (0 ≤ x12_2) = true := decide_eq_true c19
                      clear c19
                      by_cases c20 : x12_2 < (t106.length : Int)
                      · rw [if_pos c20] at H
                        have c20b0 : decide (x12_2 < (t106.length : Int)) = true := decide_eq_true c20
                        clear c20
                        by_cases c21 : ((rd_T37 t106 x12_2).f0).toList = x8_1.toList
                        · rw [if_pos c21] at H
                          have c21b0 : (((rd_T37 t106 x12_2).f0).toList == x8_1.toList) = true := beq_iff_eq.mpr c21
                          have c21b1 : (((rd_T37 t106 x12_2).f0).toList != x8_1.toList) = false := bne_eq_false_iff_eq.mpr c21
                          clear c21
                          by_cases c22 : x12_2 < (l0.length : Int)
                          · rw [if_pos c22] at H
                            have c22b0 : decide (x12_2 < (l0.length : Int)) = true := decide_eq_true c22
                            clear c22
                            by_cases c23 : ((rd_T37 t106 x12_2).f1).toList = (rdOf ByteArray.empty l0 x12_2).toList
                            · rw [if_pos c23] at H
                              have c23b0 : (((rd_T37 t106 x12_2).f1).toList == (rdOf ByteArray.empty l0 x12_2).toList) = true := beq_iff_eq.mpr c23
                              have c23b1 : (((rd_T37 t106 x12_2).f1).toList != (rdOf ByteArray.empty l0 x12_2).toList) = false := bne_eq_false_iff_eq.mpr c23
                              clear c23
                              have H' := Aside0.mk H
                              clear H
                              obtain ⟨Ao24, co24, eo24⟩ := Kd.R_slice HO_10.out
                              subst eo24
                              have p110 : 0 ≤ (x12_2 : Int) := of_decide_eq_true (by first | (with_reducible assumption) | assumption)
                              have q110 : x12_2 < (t106.length : Int) := of_decide_eq_true (by first | (with_reducible assumption) | assumption)
                              obtain ⟨ad110, e110, hx110_0, hx110_1⟩ := at_T37 (Kd.R_reads' HO_10.out).2.2 x12_2 p110 q110
                              cases e110
                              replace p110 := eq_true p110
                              replace q110 := eq_true q110
                              have p111 : 0 ≤ (x12_2 : Int) := of_decide_eq_true (by first | (with_reducible assumption) | assumption)
                              have q111 : x12_2 < (t106.length : Int) := of_decide_eq_true (by first | (with_reducible assumption) | assumption)
                              obtain ⟨ad111, e111, hx111_0, hx111_1⟩ := at_T37 (Kd.R_reads' HO_10.out).2.2 x12_2 p111 q111
                              obtain rfl : ad110 = ad111 := (by injection e111)
                              replace p111 := eq_true p111
                              replace q111 := eq_true q111
                              have p112 : 0 ≤ (x12_2 : Int) := of_decide_eq_true (by first | (with_reducible assumption) | assumption)
                              have q112 : x12_2 < (l0.length : Int) := of_decide_eq_true (by first | (with_reducible assumption) | assumption)
                              obtain ⟨ad112, e112, hx112_0⟩ := Kd.at_string (Kd.V_reads' HO_0.out).2.2 x12_2 p112 q112
                              cases e112
                              replace p112 := eq_true p112
                              replace q112 := eq_true q112
                              go_wp2
                              repeat (go_quiet (fail); try go_wp2)
                              go_roundg kj13
                              case measure => have := HK1.out; have := HK2.out; have := HJ13.out; omega
                              case rel => exact ⟨(wrap64 (x12_2 + 1)), (by first | rfl | (simp; done) | (simp [*]; done)), H', ⟨by have := HK1.out; have := HK2.out; have := HJ13.out; omega⟩, ⟨by (with_reducible repeat (first | apply Kd.V_alloc | apply Kd.V_drewN | apply Kd.V_drew)); exact HO_0.out⟩, ⟨by (with_reducible repeat (first | apply Kd.R_alloc | apply Kd.R_drewN | apply Kd.R_drew)); exact HO_10.out⟩, ⟨by repeat (first | (with_reducible first | exact HB.out | apply below_alloc | apply pw_below_drewN | apply below_drew1) | exact HB.out)⟩⟩
                            · rw [if_neg c23] at H
                              have c23b0 : (((rd_T37 t106 x12_2).f1).toList == (rdOf ByteArray.empty l0 x12_2).toList) = false := beq_eq_false_iff_ne.mpr c23
                              have c23b1 : (((rd_T37 t106 x12_2).f1).toList != (rdOf ByteArray.empty l0 x12_2).toList) = true := bne_iff_ne.mpr c23
                              obtain rfl := Option.some.inj H
                              obtain ⟨Ao25, co25, eo25⟩ := Kd.R_slice HO_10.out
                              subst eo25
                              have p110 : 0 ≤ (x12_2 : Int) := of_decide_eq_true (by first | (with_reducible assumption) | assumption)
                              have q110 : x12_2 < (t106.length : Int) := of_decide_eq_true (by first | (with_reducible assumption) | assumption)
                              obtain ⟨ad110, e110, hx110_0, hx110_1⟩ := at_T37 (Kd.R_reads' HO_10.out).2.2 x12_2 p110 q110
                              cases e110
                              replace p110 := eq_true p110
                              replace q110 := eq_true q110
                              have p111 : 0 ≤ (x12_2 : Int) := of_decide_eq_true (by first | (with_reducible assumption) | assumption)
                              have q111 : x12_2 < (t106.length : Int) := of_decide_eq_true (by first | (with_reducible assumption) | assumption)
                              obtain ⟨ad111, e111, hx111_0, hx111_1⟩ := at_T37 (Kd.R_reads' HO_10.out).2.2 x12_2 p111 q111
                              obtain rfl : ad110 = ad111 := (by injection e111)
                              replace p111 := eq_true p111
                              replace q111 := eq_true q111
                              have p112 : 0 ≤ (x12_2 : Int) := of_decide_eq_true (by first | (with_reducible assumption) | assumption)
                              have q112 : x12_2 < (l0.length : Int) := of_decide_eq_true (by first | (with_reducible assumption) | assumption)
                              obtain ⟨ad112, e112, hx112_0⟩ := Kd.at_string (Kd.V_reads' HO_0.out).2.2 x12_2 p112 q112
                              cases e112
                              replace p112 := eq_true p112
                              replace q112 := eq_true q112
                              go_wp2
                              repeat (go_quiet (fail); try go_wp2)
                              go_ret
                              exact ⟨by first | rfl | (simp [errW_none, errW_some] <;> rfl) | (simp [*, errW_none, errW_some] <;> rfl), by repeat (first | (with_reducible first | exact HB.out | apply below_alloc | apply pw_below_drewN | apply below_drew1) | exact HB.out)⟩
                          · rw [if_neg c22] at H
                            exact absurd H (by simp)
                        · rw [if_neg c21] at H
                          have c21b0 : (((rd_T37 t106 x12_2).f0).toList == x8_1.toList) = false := beq_eq_false_iff_ne.mpr c21
                          have c21b1 : (((rd_T37 t106 x12_2).f0).toList != x8_1.toList) = true := bne_iff_ne.mpr c21
                          obtain rfl := Option.some.inj H
                          obtain ⟨Ao26, co26, eo26⟩ := Kd.R_slice HO_10.out
                          subst eo26
                          have p110 : 0 ≤ (x12_2 : Int) := of_decide_eq_true (by first | (with_reducible assumption) | assumption)
                          have q110 : x12_2 < (t106.length : Int) := of_decide_eq_true (by first | (with_reducible assumption) | assumption)
                          obtain ⟨ad110, e110, hx110_0, hx110_1⟩ := at_T37 (Kd.R_reads' HO_10.out).2.2 x12_2 p110 q110
                          cases e110
                          replace p110 := eq_true p110
                          replace q110 := eq_true q110
                          go_wp2
                          repeat (go_quiet (fail); try go_wp2)
                          go_ret
                          exact ⟨by first | rfl | (simp [errW_none, errW_some] <;> rfl) | (simp [*, errW_none, errW_some] <;> rfl), by repeat (first | (with_reducible first | exact HB.out | apply below_alloc | apply pw_below_drewN | apply below_drew1) | exact HB.out)⟩
                      · rw [if_neg c20] at H
                        exact absurd H (by simp)
                    · rw [if_neg c19] at H
                      exact absurd H (by simp)
                  · replace c18 := Bool.eq_false_iff.mpr c18
                    subst c18
                    have H1 : (if t101 = true then (if t107 = 0 then (some ((t106.length : Int) == (l0.length : Int))) else (some false)) else (some false)) = some r := by rw [if_neg (show ¬ (false = true) by decide)] at H; exact H
                    clear H
                    have H := H1
                    clear H1
                    by_cases c27 : t101 = true
                    · subst c27
                      have H1 : (if t107 = 0 then (some ((t106.length : Int) == (l0.length : Int))) else (some false)) = some r := by rw [if_pos rfl] at H; exact H
                      clear H
                      have H := H1
                      clear H1
                      by_cases c28 : t107 = 0
                      · rw [if_pos c28] at H
                        have c28b0 : (t107 == 0) = true := beq_iff_eq.mpr c28
                        have c28b1 : (t107 != 0) = false := bne_eq_false_iff_eq.mpr c28
                        clear c28
                        obtain rfl := Option.some.inj H
                        obtain ⟨Ao29, co29, eo29⟩ := Kd.R_slice HO_10.out
                        subst eo29
                        go_wp2
                        repeat (go_quiet (fail); try go_wp2)
                        go_ret
                        exact ⟨by first | rfl | (simp [errW_none, errW_some] <;> rfl) | (simp [*, errW_none, errW_some] <;> rfl), by repeat (first | (with_reducible first | exact HB.out | apply below_alloc | apply pw_below_drewN | apply below_drew1) | exact HB.out)⟩
                      · rw [if_neg c28] at H
                        have c28b0 : (t107 == 0) = false := beq_eq_false_iff_ne.mpr c28
                        have c28b1 : (t107 != 0) = true := bne_iff_ne.mpr c28
                        obtain rfl := Option.some.inj H
                        go_wp2
                        repeat (go_quiet (fail); try go_wp2)
                        go_ret
                        exact ⟨by first | rfl | (simp [errW_none, errW_some] <;> rfl) | (simp [*, errW_none, errW_some] <;> rfl), by repeat (first | (with_reducible first | exact HB.out | apply below_alloc | apply pw_below_drewN | apply below_drew1) | exact HB.out)⟩
                    · replace c27 := Bool.eq_false_iff.mpr c27
                      subst c27
                      have H1 : (some false) = some r := by rw [if_neg (show ¬ (false = true) by decide)] at H; exact H
                      clear H
                      have H := H1
                      clear H1
                      obtain rfl := Option.some.inj H
                      go_wp2
                      repeat (go_quiet (fail); try go_wp2)
                      go_ret
                      exact ⟨by first | rfl | (simp [errW_none, errW_some] <;> rfl) | (simp [*, errW_none, errW_some] <;> rfl), by repeat (first | (with_reducible first | exact HB.out | apply below_alloc | apply pw_below_drewN | apply below_drew1) | exact HB.out)⟩
  · replace c5 := Bool.eq_false_iff.mpr c5
    subst c5
    have H1 : (some t101) = some r := by rw [if_neg (show ¬ (false = true) by decide)] at H; exact H
    clear H
    have H := H1
    clear H1
    obtain rfl := Option.some.inj H
    go_enter Try.func5, Try.ntmps5
    go_wp2_with (first | (go_at_call 15; (with_reducible refine (sennitlaw19_awake.calls  t101 _ A3.out).mono ?_); rintro e w30 ⟨rfl, hb⟩; have n0_ := Aside0.mk (Kd.V_below (by (with_reducible repeat (first | apply Kd.V_alloc | apply Kd.V_drewN | apply Kd.V_drew)); exact HO0.out) hb); have n1_ := Aside0.mk (below_step (by repeat (first | (with_reducible first | exact HB.out | apply below_alloc | apply pw_below_drewN | apply below_drew1) | exact HB.out)) hb); clear HO0; clear HB; have HO0 := n0_; have HB := n1_; clear n0_ n1_; (try clear hb); (try clear hb2); (try clear hk); (try clear hi)) | (go_at_call 22; (with_reducible refine (sennitref01_Few.calls k _ _ l0 20 false _ ?side1 ?side2 A4.out).mono ?_); (case side1 => repeat (first | exact (Kd.V_reads' HO0.out).2.2 | (with_reducible refine Kd.C_alloc ?_ _) | (with_reducible refine Kd.C_drewN ?_ _) | (with_reducible refine Kd.C_drew ?_))); (case side2 => exact (Kd.V_reads' HO0.out).2.1); rintro e w' ⟨rfl, ⟨nd, rfl⟩⟩; (try first | exact ⟨rfl, _, World.drewN_drewN _ _ _⟩ | exact ⟨rfl, _, Eq.trans (World.drewN_drewN _ _ _) (congrArg (World.drewN _) (Nat.add_assoc _ _ _))⟩)))
    repeat (go_quiet (first | (go_at_call 15; (with_reducible refine (sennitlaw19_awake.calls  t101 _ A3.out).mono ?_); rintro e w30 ⟨rfl, hb⟩; have n0_ := Aside0.mk (Kd.V_below (by (with_reducible repeat (first | apply Kd.V_alloc | apply Kd.V_drewN | apply Kd.V_drew)); exact HO0.out) hb); have n1_ := Aside0.mk (below_step (by repeat (first | (with_reducible first | exact HB.out | apply below_alloc | apply pw_below_drewN | apply below_drew1) | exact HB.out)) hb); clear HO0; clear HB; have HO0 := n0_; have HB := n1_; clear n0_ n1_; (try clear hb); (try clear hb2); (try clear hk); (try clear hi)) | (go_at_call 22; (with_reducible refine (sennitref01_Few.calls k _ _ l0 20 false _ ?side1 ?side2 A4.out).mono ?_); (case side1 => repeat (first | exact (Kd.V_reads' HO0.out).2.2 | (with_reducible refine Kd.C_alloc ?_ _) | (with_reducible refine Kd.C_drewN ?_ _) | (with_reducible refine Kd.C_drew ?_))); (case side2 => exact (Kd.V_reads' HO0.out).2.1); rintro e w' ⟨rfl, ⟨nd, rfl⟩⟩; (try first | exact ⟨rfl, _, World.drewN_drewN _ _ _⟩ | exact ⟨rfl, _, Eq.trans (World.drewN_drewN _ _ _) (congrArg (World.drewN _) (Nat.add_assoc _ _ _))⟩))); try go_wp2_with (first | (go_at_call 15; (with_reducible refine (sennitlaw19_awake.calls  t101 _ A3.out).mono ?_); rintro e w30 ⟨rfl, hb⟩; have n0_ := Aside0.mk (Kd.V_below (by (with_reducible repeat (first | apply Kd.V_alloc | apply Kd.V_drewN | apply Kd.V_drew)); exact HO0.out) hb); have n1_ := Aside0.mk (below_step (by repeat (first | (with_reducible first | exact HB.out | apply below_alloc | apply pw_below_drewN | apply below_drew1) | exact HB.out)) hb); clear HO0; clear HB; have HO0 := n0_; have HB := n1_; clear n0_ n1_; (try clear hb); (try clear hb2); (try clear hk); (try clear hi)) | (go_at_call 22; (with_reducible refine (sennitref01_Few.calls k _ _ l0 20 false _ ?side1 ?side2 A4.out).mono ?_); (case side1 => repeat (first | exact (Kd.V_reads' HO0.out).2.2 | (with_reducible refine Kd.C_alloc ?_ _) | (with_reducible refine Kd.C_drewN ?_ _) | (with_reducible refine Kd.C_drew ?_))); (case side2 => exact (Kd.V_reads' HO0.out).2.1); rintro e w' ⟨rfl, ⟨nd, rfl⟩⟩; (try first | exact ⟨rfl, _, World.drewN_drewN _ _ _⟩ | exact ⟨rfl, _, Eq.trans (World.drewN_drewN _ _ _) (congrArg (World.drewN _) (Nat.add_assoc _ _ _))⟩))))
    go_ret
    exact ⟨by first | rfl | (simp [errW_none, errW_some] <;> rfl) | (simp [*, errW_none, errW_some] <;> rfl), by repeat (first | (with_reducible first | exact HB.out | apply below_alloc | apply pw_below_drewN | apply below_drew1) | exact HB.out)⟩

end Go.Proofs.Ytnlekganlliikaa.X
-- part XGives
namespace Go.Proofs.Ytnlekganlliikaa.X
open Go.RowKit Go.Proofs.YtnlekganlliikaaW.PrintWords Go.Proofs.YtnlekganlliikaaW.PrintLast Go.Proofs.YtnlekganlliikaaW.PrintMore
set_option linter.unusedVariables false
set_option linter.unusedSimpArgs false
section
variable {α β : Type} {f g : Nat → Option α} {c : Nat → Option β} {r r' : α} {t : β}
/-- With rounds enough it tells r. -/
def Gives (f : Nat → Option α) (r : α) : Prop := ∃ K, ∀ k, K ≤ k → f k = some r
theorem Gives.of (h : ∀ k, f (k + 1) = some r) : Gives f r := ⟨1, fun k hk => by obtain ⟨j, rfl⟩ : ∃ j, k = j + 1 := ⟨k - 1, by omega⟩; exact h j⟩
theorem Gives.step (hg : Gives g r) (h : ∀ k, f (k + 1) = g k) : Gives f r := by
  obtain ⟨K, hK⟩ := hg
  exact ⟨K + 1, fun k hk => by obtain ⟨j, rfl⟩ : ∃ j, k = j + 1 := ⟨k - 1, by omega⟩; rw [h j]; exact hK j (by omega)⟩
theorem Gives.same (hg : Gives g r) (h : ∀ k, f k = g k) : Gives f r := by
  obtain ⟨K, hK⟩ := hg
  exact ⟨K, fun k hk => by rw [h k]; exact hK k hk⟩
theorem Gives.call (hc : Gives c t) (hg : Gives g r) (h : ∀ k, c k = some t → f (k + 1) = g k) : Gives f r := by
  obtain ⟨K, hK⟩ := hg
  obtain ⟨C, hC⟩ := hc
  exact ⟨K + C + 1, fun k hk => by obtain ⟨j, rfl⟩ : ∃ j, k = j + 1 := ⟨k - 1, by omega⟩; rw [h j (hC j (by omega))]; exact hK j (by omega)⟩
theorem Gives.call0 (hc : Gives c t) (hg : Gives g r) (h : ∀ k, c k = some t → f k = g k) : Gives f r := by
  obtain ⟨K, hK⟩ := hg
  obtain ⟨C, hC⟩ := hc
  exact ⟨K + C, fun k hk => by rw [h k (hC k (by omega))]; exact hK k (by omega)⟩
theorem Gives.last (hc : Gives c t) (h : ∀ k, c k = some t → f (k + 1) = some r) : Gives f r := by
  obtain ⟨C, hC⟩ := hc
  exact ⟨C + 1, fun k hk => by obtain ⟨j, rfl⟩ : ∃ j, k = j + 1 := ⟨k - 1, by omega⟩; exact h j (hC j (by omega))⟩
theorem Gives.last0 (hc : Gives c t) (h : ∀ k, c k = some t → f k = some r) : Gives f r := by
  obtain ⟨C, hC⟩ := hc
  exact ⟨C, fun k hk => h k (hC k hk)⟩
end
theorem gw {x : Int} (h : -9223372036854775808 ≤ x) (h2 : x < 9223372036854775808) : wrap64 x = x := by
  unfold wrap64
  omega
theorem gw1 {i : Nat} (h : i < 4611686018427387904) : wrap64 ((i : Int) + 1) = ((i + 1 : Nat) : Int) := by
  rw [gw (by omega) (by omega)]; omega
theorem getN {α : Type} {d : α} {L : List α} {i : Nat} (h : i < L.length) : L.getD (i : Int).toNat d = L[i] := by
  simp [h]
theorem rdOfN {α : Type} {d : α} {L : List α} {i : Nat} (h : i < L.length) : rdOf d L (i : Int) = L[i] := by
  simp [rdOf, h]
/-- What came in, told with all that it may lie in. -/
theorem V_of_C {α : Type} {d : Kd α} (hd : Kd.Heap d) {e base c : Nat} {w : World} {A : Option Addr} {xs : List α} (h : d.C w A xs.length xs) (hc : xs.length ≤ c) : Kd.V d e w base (fun _ => True) (.slice A xs.length c) xs :=
  Kd.V_mk hc (fun W' hW => hd.C (fun k hk => hW k trivial hk) h)
theorem u8N {x : Int} (h : (Lit.int .u8 x).wf = true) : ∃ n : Nat, x = (n : Int) ∧ n < 256 := by
  have e1 : IntKind.u8.min = 0 := rfl
  have e2 : IntKind.u8.max = 255 := rfl
  simp [Lit.wf, go_sem] at h
  exact ⟨x.toNat, by omega, by omega⟩
end Go.Proofs.Ytnlekganlliikaa.X
-- part XRef02
namespace Go.Proofs.Ytnlekganlliikaa.X
open Go.RowKit Go.Proofs.YtnlekganlliikaaW.PrintWords Go.Proofs.YtnlekganlliikaaW.PrintLast Go.Proofs.YtnlekganlliikaaW.PrintMore
set_option linter.unusedVariables false
set_option linter.unusedSimpArgs false
/-- So many texts, of 100 bytes, at most. -/
def fewB (l : List ByteArray) (n : Nat) : Bool := decide (l.length ≤ n ∧ ∀ s ∈ l, s.size ≤ 100)
theorem ref_few01_l0 (l : List ByteArray) (n : Nat) (hn : n ≤ 1000000) : ∀ (r i k : Nat), i + r = n + 1 → 2 * r + 2 ≤ k → sennitref01_Few.l0 k l (n : Int) (i : Int) = some (decide (l.length ≤ n ∧ ∀ s ∈ l.drop i, s.size ≤ 100))
  | 0, i, k + 2, hi, hk => by
    have e : ((l.length : Int) ≤ (n : Int)) = (l.length ≤ n) := by simp
    rw [sennitref01_Few.l0]
    by_cases h : (i : Int) < l.length
    · rw [if_pos h, decide_eq_false (show ¬ ((i : Int) ≤ (n : Int)) by omega), sennitref01_Few.j1, if_neg (by decide), decide_eq_false (by omega), decide_eq_false (by omega)]
    · rw [if_neg h, sennitref01_Few.j1, if_neg (by decide), List.drop_of_length_le (by omega)]
      simp
  | r + 1, i, k + 2, hi, hk => by
    rw [sennitref01_Few.l0]
    by_cases h : (i : Int) < l.length
    · have hd : l.drop i = l[i] :: l.drop (i + 1) := List.drop_eq_getElem_cons (by omega)
      rw [if_pos h, decide_eq_true (show ((i : Int) ≤ (n : Int)) by omega), sennitref01_Few.j1, if_pos rfl, if_pos (by omega), if_pos h, rdOfN (by omega), hd]
      by_cases h2 : 100 < l[i].size
      · rw [if_pos (by omega), decide_eq_false]
        rintro ⟨_, h3⟩
        have := h3 l[i] List.mem_cons_self
        omega
      · rw [if_neg (by omega), gw1 (by omega)]
        have := ref_few01_l0 l n hn r (i + 1) k (by omega) (by omega)
        rw [this]
        simp only [List.forall_mem_cons, show l[i].size ≤ 100 from by omega, true_and]
    · rw [if_neg h, sennitref01_Few.j1, if_neg (by decide), List.drop_of_length_le (by omega)]
      simp
theorem ref_few01 (l : List ByteArray) (n : Nat) (hn : n ≤ 1000000) : Gives (fun k => sennitref01_Few.f k l (n : Int)) (fewB l n) :=
  ⟨2 * (n + 1) + 2, fun k hk => by
    have := ref_few01_l0 l n hn (n + 1) 0 k (by omega) hk
    simpa [sennitref01_Few.f, fewB] using this⟩

end Go.Proofs.Ytnlekganlliikaa.X
-- part XRef03
namespace Go.Proofs.Ytnlekganlliikaa.X
open Go.RowKit Go.Proofs.YtnlekganlliikaaW.PrintWords Go.Proofs.YtnlekganlliikaaW.PrintLast Go.Proofs.YtnlekganlliikaaW.PrintMore
set_option linter.unusedVariables false
set_option linter.unusedSimpArgs false
theorem rd_of {L : List Int} {i : Nat} {x : Int} (h : L[i]? = some x) : rd L (i : Int) = x := by
  simp [rd, h]

/-- The table, from the place (i, c) on; noughts ahead. -/
def Tab (a b : List Int) (i c : Nat) (T : List Int) : Prop :=
  T.length = (a.length + 1) * (b.length + 1) ∧ ∀ i' j', i' ≤ a.length → j' ≤ b.length → T[i' * (b.length + 1) + j']? = some (if i < i' ∨ i = i' ∧ c ≤ j' then ((lcsL (a.drop i') (b.drop j') : Nat) : Int) else 0)
section
variable {a b T : List Int}
theorem tab_place {n m i j : Nat} (hi : i ≤ n) (hj : j ≤ m) : i * (m + 1) + j < (n + 1) * (m + 1) := place_lt (by omega) (by omega)
theorem tab_ne {m i j i' j' : Nat} (hj : j ≤ m) (hj' : j' ≤ m) (h : i * (m + 1) + j = i' * (m + 1) + j') : i = i' ∧ j = j' := by
  have h1 := place_div (m := m + 1) (i := i) (j := j) (by omega)
  have h2 := place_div (m := m + 1) (i := i') (j := j') (by omega)
  rw [h] at h1
  exact ⟨h1.1.symm.trans h2.1, h1.2.symm.trans h2.2⟩
theorem Tab.first (h : Tab a b a.length b.length T) : Tab a b a.length 0 T := by
  refine ⟨h.1, fun i' j' hi hj => ?_⟩
  rw [h.2 i' j' hi hj]
  congr 1
  by_cases e : i' = a.length
  · subst e
    rw [if_pos (show a.length < a.length ∨ a.length = a.length ∧ 0 ≤ j' by omega), show a.drop a.length = [] from List.drop_of_length_le (by omega), lcsL_nil_left]
    split <;> rfl
  · rw [if_neg (show ¬ (a.length < i' ∨ a.length = i' ∧ b.length ≤ j') by omega), if_neg (show ¬ (a.length < i' ∨ a.length = i' ∧ 0 ≤ j') by omega)]
theorem Tab.put {i c : Nat} (h : Tab a b i (c + 1) T) (hi : i ≤ a.length) (hc : c ≤ b.length) : Tab a b i c (T.set (i * (b.length + 1) + c) ((lcsL (a.drop i) (b.drop c) : Nat) : Int)) := by
  refine ⟨by simpa using h.1, fun i' j' hi' hj' => ?_⟩
  by_cases e : i' = i ∧ j' = c
  · obtain ⟨rfl, rfl⟩ := e
    rw [List.getElem?_set_self (by rw [h.1]; exact tab_place hi hc), if_pos (by omega)]
  · rw [List.getElem?_set_ne (fun h2 => e (by have := tab_ne hc hj' h2; omega)), h.2 i' j' hi' hj']
    congr 1
    by_cases e2 : i < i' ∨ i = i' ∧ c + 1 ≤ j'
    · rw [if_pos e2, if_pos (by omega)]
    · rw [if_neg e2, if_neg (by omega)]
theorem Tab.at_ {i c i' j' : Nat} (h : Tab a b i c T) (hi : i' ≤ a.length) (hj : j' ≤ b.length) (hd : i < i' ∨ i = i' ∧ c ≤ j') : rd T ((i' : Int) * ((b.length : Int) + 1) + (j' : Int)) = ((lcsL (a.drop i') (b.drop j') : Nat) : Int) := by
  have := h.2 i' j' hi hj
  rw [if_pos hd] at this
  have e := rd_of this
  rw [← e]
  congr 1
end
section
variable {a b : List Int}
end
end Go.Proofs.Ytnlekganlliikaa.X
-- part XPairMath
namespace Go.Proofs.Ytnlekganlliikaa.X
set_option linter.unusedVariables false
set_option linter.unusedSimpArgs false
theorem addT_self (t : List ByteArray) (s : ByteArray) : s ∈ addT t s := by
  unfold addT; split
  · rename_i h; exact (place_mem s).2 h
  · simp
theorem addT_sub (t : List ByteArray) (s x : ByteArray) (h : x ∈ t) : x ∈ addT t s := by
  unfold addT; split
  · exact h
  · simp [h]
theorem place_addT {t : List ByteArray} {s x : ByteArray} (h : x ∈ t) : place x (addT t s) = place x t := by
  unfold addT; split
  · rfl
  · exact place_append x _ ((place_mem x).1 h)
theorem place_addT_self (t : List ByteArray) (s : ByteArray) : place s (addT t s) = place s t := by
  unfold addT; split
  · rfl
  · rename_i h; rw [place_new s [] h, place_not h]
theorem place_inj {t : List ByteArray} {s s' : ByteArray} (h : s ∈ t) (e : place s t = place s' t) : s = s' := by
  have h1 := (place_mem s).1 h
  have h2 : place s' t < t.length := by omega
  have e1 := place_get s h1
  have e2 := place_get s' h2
  rw [← e1, ← e2]
  congr 1
/-- A text's number in a table. -/
def num (t : List ByteArray) (s : ByteArray) : Int := (place s t : Int)
theorem num_inj {t : List ByteArray} {s s' : ByteArray} (h : s ∈ t) (e : num t s = num t s') : s = s' := place_inj h (by unfold num at e; omega)
theorem idsOne_spec : ∀ (t l : List ByteArray), (∀ x ∈ t, x ∈ (idsOne t l).1 ∧ place x (idsOne t l).1 = place x t) ∧ (∀ x ∈ l, x ∈ (idsOne t l).1) ∧ (idsOne t l).2 = l.map (num (idsOne t l).1)
  | t, [] => ⟨fun x h => ⟨h, rfl⟩, fun x h => by simp at h, rfl⟩
  | t, s :: l => by
    obtain ⟨h1, h2, h3⟩ := idsOne_spec (addT t s) l
    have hs := h1 s (addT_self t s)
    refine ⟨fun x h => ?_, fun x h => ?_, ?_⟩
    · have := h1 x (addT_sub t s x h)
      exact ⟨this.1, this.2.trans (place_addT h)⟩
    · rcases List.mem_cons.1 h with rfl | h
      · exact hs.1
      · exact h2 x h
    · simp only [idsOne, List.map_cons]
      rw [h3]
      congr 1
      unfold num
      rw [hs.2, place_addT_self]
theorem tabOf_spec : ∀ (t : List ByteArray) (ls : List (List ByteArray)), (∀ x ∈ t, x ∈ tabOf t ls ∧ place x (tabOf t ls) = place x t) ∧ (∀ l ∈ ls, ∀ x ∈ l, x ∈ tabOf t ls) ∧ idsMany t ls = ls.map (fun l => l.map (num (tabOf t ls)))
  | t, [] => ⟨fun x h => ⟨h, rfl⟩, fun x h => by simp at h, rfl⟩
  | t, l :: ls => by
    obtain ⟨h1, h2, h3⟩ := tabOf_spec (idsOne t l).1 ls
    obtain ⟨g1, g2, g3⟩ := idsOne_spec t l
    refine ⟨fun x h => ?_, fun k hk x h => ?_, ?_⟩
    · have := h1 x (g1 x h).1
      exact ⟨this.1, this.2.trans (g1 x h).2⟩
    · rcases List.mem_cons.1 hk with rfl | hk
      · exact (h1 x (g2 x h)).1
      · exact h2 k hk x h
    · simp only [idsMany, tabOf, List.map_cons]
      rw [h3, g3]
      congr 1
      refine List.map_congr_left fun x hx => ?_
      unfold num
      rw [(h1 x (g2 x hx)).2]
/-- The numbers of some files' texts: all by one table. -/
theorem idsAll_map (ls : List (List ByteArray)) : idsAll ls = ls.map (fun l => l.map (num (tabOf [] ls))) := (tabOf_spec [] ls).2.2
theorem tabAll {ls : List (List ByteArray)} {l : List ByteArray} (hl : l ∈ ls) {x : ByteArray} (hx : x ∈ l) : x ∈ tabOf [] ls := (tabOf_spec [] ls).2.1 l hl x hx

theorem lcsL_map {α : Type} (f g : α → Int) (a b : List α) (h : ∀ x ∈ a, ∀ y ∈ b, (f x = f y ↔ g x = g y)) : lcsL (a.map f) (b.map f) = lcsL (a.map g) (b.map g) := by
  match a, b with
  | [], b => simp
  | x :: xs, [] => simp
  | x :: xs, y :: ys =>
    simp only [List.map_cons]
    rw [lcsL_cons, lcsL_cons]
    have h1 := lcsL_map f g xs ys (fun u hu v hv => h u (by simp [hu]) v (by simp [hv]))
    have h2 := lcsL_map f g xs (y :: ys) (fun u hu v hv => h u (by simp [hu]) v hv)
    have h3 := lcsL_map f g (x :: xs) ys (fun u hu v hv => h u hu v (by simp [hv]))
    simp only [List.map_cons] at h2 h3
    rw [h1, h2, h3]
    have := h x (by simp) y (by simp)
    by_cases e : f x = f y
    · rw [if_pos e, if_pos (this.1 e)]
    · rw [if_neg e, if_neg (fun e' => e (this.2 e'))]
  termination_by a.length + b.length
theorem matchFrom_map {α : Type} (f g : α → Int) (a b : List α) (j : Nat) (h : ∀ x ∈ a, ∀ y ∈ b, (f x = f y ↔ g x = g y)) : matchFrom (a.map f) (b.map f) j = matchFrom (a.map g) (b.map g) j := by
  match a, b with
  | [], b => simp [matchFrom_nil]
  | x :: xs, [] => simp [matchFrom_rest]
  | x :: xs, y :: ys =>
    simp only [List.map_cons]
    rw [matchFrom_cons, matchFrom_cons]
    have l2 := lcsL_map f g xs (y :: ys) (fun u hu v hv => h u (by simp [hu]) v hv)
    have l3 := lcsL_map f g (x :: xs) ys (fun u hu v hv => h u hu v (by simp [hv]))
    have h1 := matchFrom_map f g xs ys (j + 1) (fun u hu v hv => h u (by simp [hu]) v (by simp [hv]))
    have h2 := matchFrom_map f g xs (y :: ys) j (fun u hu v hv => h u (by simp [hu]) v hv)
    have h3 := matchFrom_map f g (x :: xs) ys (j + 1) (fun u hu v hv => h u hu v (by simp [hv]))
    simp only [List.map_cons] at h2 h3 l2 l3
    rw [h1, h2, h3, l2, l3]
    have := h x (by simp) y (by simp)
    by_cases e : f x = f y
    · rw [if_pos e, if_pos (this.1 e)]
    · rw [if_neg e, if_neg (fun e' => e (this.2 e'))]
  termination_by a.length + b.length
/-- How two lists of texts are paired. -/
def matchS (a b : List ByteArray) : List Int := matchOf (a.map (num (a ++ b))) (b.map (num (a ++ b)))
theorem num_iff {t : List ByteArray} {x y : ByteArray} (h : x ∈ t) : num t x = num t y ↔ x = y := ⟨fun e => num_inj h e, fun e => by rw [e]⟩
theorem matchS_num {t : List ByteArray} {a b : List ByteArray} (h : ∀ x ∈ a, x ∈ t) : matchOf (a.map (num t)) (b.map (num t)) = matchS a b :=
  matchFrom_map _ _ a b 0 fun x hx y hy => (num_iff (h x hx)).trans (num_iff (by simp [hx])).symm
theorem matchS_length (a b : List ByteArray) : (matchS a b).length = a.length := by rw [matchS, matchOf, matchFrom_length, List.length_map]

/-- Each place is told -1, or a place of the list that holds the same; they rise, from lo on. -/
def Fits (list : List ByteArray) : List Int → List ByteArray → Nat → Prop
  | [], [], lo => lo ≤ list.length
  | m :: ms, s :: ss, lo => (m = -1 ∧ Fits list ms ss lo) ∨ (∃ k : Nat, m = (k : Int) ∧ lo ≤ k ∧ list[k]? = some s ∧ Fits list ms ss (k + 1))
  | _, _, _ => False
theorem Fits.len {list : List ByteArray} : ∀ {ms : List Int} {ss : List ByteArray} {lo : Nat}, Fits list ms ss lo → ms.length = ss.length
  | [], [], lo, h => rfl
  | [], _ :: _, lo, h => h.elim
  | _ :: _, [], lo, h => h.elim
  | m :: ms, s :: ss, lo, h => by
    rcases h with ⟨_, h⟩ | ⟨k, _, _, _, h⟩ <;> simp [Fits.len h]
theorem matchFrom_self : ∀ (a : List Int) (j : Nat), matchFrom a a j = (List.range' j a.length).map (fun k : Nat => (k : Int))
  | [], j => by simp [matchFrom_nil]
  | x :: a, j => by rw [matchFrom_cons, if_pos rfl, matchFrom_self a (j + 1)]; simp [List.range'_succ]
theorem matchS_self (a : List ByteArray) : matchS a a = (List.range' 0 a.length).map (fun k : Nat => (k : Int)) := by
  rw [matchS, matchOf, matchFrom_self, List.length_map]
end Go.Proofs.Ytnlekganlliikaa.X
-- part XGapLaw
namespace Go.Proofs.Ytnlekganlliikaa.X
set_option linter.unusedVariables false
set_option linter.unusedSimpArgs false
theorem matchG_S (rs : List RowG) (list : List ByteArray) : matchG rs list = matchS (rs.map (·.2)) list := by
  unfold matchG idsOf2
  rw [idsAll_map]
  exact matchS_num fun x hx => tabAll (ls := [rs.map (·.2), list]) (by simp) hx
theorem comeF_def (col : Nat) (list : List ByteArray) (rs : List RowG) : comeF col list rs = comeGo col list (matchS (rs.map (·.2)) list) rs 0 := by rw [comeF, matchG_S]
/-- The rows of so many columns. -/
def Cols (n : Nat) (rs : List RowG) : Prop := ∀ x ∈ rs, x.1.length = 16 ∧ (∀ c, x.1.getD c 0 = 0 ∨ x.1.getD c 0 = 1) ∧ (∀ c, n ≤ c → x.1.getD c 0 = 0) ∧ (∃ c, c < n ∧ x.1.getD c 0 = 1)
theorem getD_set (l : List Int) (i c : Nat) (v : Int) (h : i < l.length) : (l.set i v).getD c 0 = if c = i then v else l.getD c 0 := by
  simp only [List.getD_eq_getElem?_getD, List.getElem?_set]
  by_cases e : c = i
  · subst e; simp [h]
  · simp [e, Ne.symm e]
theorem noMarks_getD (c : Nat) : noMarks.getD c 0 = 0 := by
  simp only [noMarks, List.getD_eq_getElem?_getD, List.getElem?_replicate]
  split <;> rfl
theorem oneRow_getD {col : Nat} (h : col < 16) (s : ByteArray) (c : Nat) : (oneRow col s).1.getD c 0 = if c = col then 1 else 0 := by
  rw [oneRow, getD_set _ _ _ _ (by simpa [noMarks] using h), noMarks_getD]
theorem oneRow_len (col : Nat) (s : ByteArray) : (oneRow col s).1.length = 16 := by simp [oneRow, noMarks]
theorem comeGo_forall (P : RowG → Prop) (col : Nat) (list : List ByteArray) (h1 : ∀ s ∈ list, P (oneRow col s)) : ∀ (ms : List Int) (rs : List RowG) (a : Nat), ms.length = rs.length → (∀ x ∈ rs, P x ∧ P (x.1.set col 1, x.2)) → ∀ x ∈ comeGo col list ms rs a, P x
  | [], rs, a, hl, h => by
    rw [comeGo_nil]
    intro x hx
    obtain ⟨s, hs, rfl⟩ := List.mem_map.1 hx
    exact h1 s (List.mem_of_mem_drop hs)
  | m :: ms, [], a, hl, h => by simp at hl
  | m :: ms, y :: rs, a, hl, h => by
    have ih := fun a => comeGo_forall P col list h1 ms rs a (by simpa using hl) (fun x hx => h x (List.mem_cons_of_mem _ hx))
    have hy := h y List.mem_cons_self
    intro x hx
    rw [comeGo] at hx
    split at hx
    · rcases List.mem_append.1 hx with hx | hx
      · obtain ⟨s, hs, rfl⟩ := List.mem_map.1 hx
        exact h1 s (List.mem_of_mem_take (List.mem_of_mem_drop hs))
      · rcases List.mem_cons.1 hx with rfl | hx
        · exact hy.2
        · exact ih _ x hx
    · rcases List.mem_cons.1 hx with rfl | hx
      · exact hy.1
      · exact ih _ x hx
theorem comeF_len_m (rs : List RowG) (list : List ByteArray) : (matchS (rs.map (·.2)) list).length = rs.length := by rw [matchS_length, List.length_map]
theorem Cols.come {n : Nat} {rs : List RowG} (h : Cols n rs) (hn : n < 16) (list : List ByteArray) : Cols (n + 1) (comeF n list rs) := by
  rw [comeF_def]
  refine comeGo_forall (fun x => x.1.length = 16 ∧ (∀ c, x.1.getD c 0 = 0 ∨ x.1.getD c 0 = 1) ∧ (∀ c, n + 1 ≤ c → x.1.getD c 0 = 0) ∧ (∃ c, c < n + 1 ∧ x.1.getD c 0 = 1)) n list (fun s hs => ⟨oneRow_len _ _, fun c => ?_, fun c hc => ?_, n, by omega, ?_⟩) _ rs 0 (comeF_len_m rs list) fun x hx => ?_
  · rw [oneRow_getD hn]; split <;> simp
  · rw [oneRow_getD hn, if_neg (by omega)]
  · rw [oneRow_getD hn, if_pos rfl]
  · obtain ⟨h1, h2, h3, c0, h4, h5⟩ := h x hx
    have hnl : n < x.1.length := by omega
    refine ⟨⟨h1, h2, fun c hc => h3 c (by omega), c0, by omega, h5⟩, by simpa using h1, fun c => ?_, fun c hc => ?_, n, by omega, ?_⟩
    · show (x.1.set n 1).getD c 0 = 0 ∨ (x.1.set n 1).getD c 0 = 1
      rw [getD_set _ _ _ _ hnl]; split
      · simp
      · exact h2 c
    · show (x.1.set n 1).getD c 0 = 0
      rw [getD_set _ _ _ _ hnl, if_neg (by omega)]; exact h3 c (by omega)
    · show (x.1.set n 1).getD n 0 = 1
      rw [getD_set _ _ _ _ hnl, if_pos rfl]
/-- The rows of lists that come, one by one. -/
def rowsFrom : Nat → List (List ByteArray) → List RowG → List RowG
  | _, [], rs => rs
  | i, l :: ls, rs => rowsFrom (i + 1) ls (comeF i l rs)
theorem rowsFrom_snoc : ∀ (ls : List (List ByteArray)) (i : Nat) (l : List ByteArray) (rs : List RowG), rowsFrom i (ls ++ [l]) rs = comeF (i + ls.length) l (rowsFrom i ls rs)
  | [], i, l, rs => rfl
  | x :: ls, i, l, rs => by
    simp only [List.cons_append, rowsFrom, List.length_cons]
    rw [rowsFrom_snoc ls (i + 1) l _, show i + 1 + ls.length = i + (ls.length + 1) by omega]
def rowsOf (ls : List (List ByteArray)) : List RowG := rowsFrom 0 ls []
theorem rowsOf_snoc (ls : List (List ByteArray)) (l : List ByteArray) : rowsOf (ls ++ [l]) = comeF ls.length l (rowsOf ls) := by
  rw [rowsOf, rowsFrom_snoc, Nat.zero_add]; rfl
def sumLen (ls : List (List ByteArray)) : Nat := (ls.map List.length).sum
/-- A list that is the rows' own texts is marked in each. -/
theorem comeGo_self (col : Nat) (list : List ByteArray) : ∀ (rs : List RowG) (a : Nat), a + rs.length = list.length → comeGo col list ((List.range' a rs.length).map (fun k : Nat => (k : Int))) rs a = rs.map (fun x => (x.1.set col 1, x.2))
  | [], a, h => by simp [comeGo_nil, List.drop_eq_nil_of_le (show list.length ≤ a by simp at h; omega)]
  | y :: rs, a, h => by
    simp only [List.length_cons] at h
    rw [List.length_cons, List.range'_succ, List.map_cons, comeGo_yes, comeGo_self col list rs (a + 1) (by omega), List.drop_eq_nil_of_le (by rw [List.length_take]; omega)]
    rfl
theorem comeF_self (col : Nat) (rs : List RowG) : comeF col (rs.map (·.2)) rs = rs.map (fun x => (x.1.set col 1, x.2)) := by
  rw [comeF_def, matchS_self, List.length_map]
  exact comeGo_self col _ rs 0 (by simp)
def allMarks (n : Nat) : List Int := List.replicate n 1 ++ List.replicate (16 - n) 0
theorem allMarks_set {n : Nat} (h : n < 16) : (allMarks n).set n 1 = allMarks (n + 1) := by
  rw [allMarks, allMarks, List.set_append_right _ _ (by simp)]
  simp only [List.length_replicate, Nat.sub_self]
  obtain ⟨k, hk⟩ : ∃ k, 16 - n = k + 1 := ⟨16 - n - 1, by omega⟩
  rw [hk, List.replicate_succ, List.set_cons_zero, show 16 - (n + 1) = k by omega, List.replicate_succ' , List.append_assoc]
  rfl
theorem rowsOf_same (l : List ByteArray) : ∀ n, 0 < n → n ≤ 16 → rowsOf (List.replicate n l) = l.map (fun s => (allMarks n, s))
  | 1, _, _ => by
    show comeF 0 l [] = _
    rw [comeF_def, show matchS (([] : List RowG).map (·.2)) l = [] from List.length_eq_zero_iff.1 (matchS_length _ _), comeGo_nil]
    rfl
  | n + 2, _, h => by
    rw [List.replicate_succ', rowsOf_snoc, rowsOf_same l (n + 1) (by omega) (by omega), List.length_replicate]
    have := comeF_self (n + 1) (l.map (fun s => (allMarks (n + 1), s)))
    rw [List.map_map, show ((fun x : RowG => x.2) ∘ fun s => (allMarks (n + 1), s)) = id from rfl, List.map_id] at this
    rw [this, List.map_map]
    refine List.map_congr_left fun s _ => ?_
    show ((allMarks (n + 1)).set (n + 1) 1, s) = _
    rw [allMarks_set (by omega)]
end Go.Proofs.Ytnlekganlliikaa.X
-- part XRef19
namespace Go.Proofs.Ytnlekganlliikaa.X
open Go.RowKit Go.Proofs.YtnlekganlliikaaW.PrintWords Go.Proofs.YtnlekganlliikaaW.PrintLast Go.Proofs.YtnlekganlliikaaW.PrintMore
set_option linter.unusedVariables false
set_option linter.unusedSimpArgs false
abbrev ApiRow := S37
theorem apiRow_ext {x y : ApiRow} (h0 : x.f0 = y.f0) (h1 : x.f1 = y.f1) : x = y := by
  cases x; cases y; cases h0; cases h1; rfl
instance apiRowDec : DecidableEq ApiRow := fun x y => decidable_of_iff (x.f0 = y.f0 ∧ x.f1 = y.f1) ⟨fun h => apiRow_ext h.1 h.2, fun h => by rw [h]; exact ⟨rfl, rfl⟩⟩
/-- A string of bytes. -/
def bs (l : List UInt8) : ByteArray := ⟨l.toArray⟩
theorem bs_append (a b : List UInt8) : bs a ++ bs b = bs (a ++ b) := by
  apply ByteArray.ext
  simp [bs, ByteArray.data_append]
theorem bs_size (a : List UInt8) : (bs a).size = a.length := by simp [bs, ByteArray.size]
section
variable {col : Nat} {list : List ByteArray} {R : List ApiRow} {ms : List Int}
end
end Go.Proofs.Ytnlekganlliikaa.X
-- part XGapL
namespace Go.Proofs.Ytnlekganlliikaa.X
open Go.RowKit Go.Proofs.YtnlekganlliikaaW.PrintWords Go.Proofs.YtnlekganlliikaaW.PrintLast Go.Proofs.YtnlekganlliikaaW.PrintMore
set_option linter.unusedVariables false
set_option linter.unusedSimpArgs false
theorem awake19 : sennitlaw19_awake.f = some true := by decide +kernel
end Go.Proofs.Ytnlekganlliikaa.X
-- part XGapTells
namespace Go.Proofs.Ytnlekganlliikaa.X
open Go.RowKit Go.Proofs.YtnlekganlliikaaW.PrintWords Go.Proofs.YtnlekganlliikaaW.PrintLast Go.Proofs.YtnlekganlliikaaW.PrintMore
set_option linter.unusedVariables false
set_option linter.unusedSimpArgs false
theorem eachG_rows : ∀ (ls : List (List ByteArray)) (i : Nat) (rs : List RowG) (e : Int), (∀ l ∈ ls, l.length ≤ 2000) → rs.length + sumLen ls ≤ 2000 → eachG i ls rs e = (rowsFrom i ls rs, e)
  | [], i, rs, e, _, _ => rfl
  | l :: ls, i, rs, e, h, hs => by
    have hl := h l List.mem_cons_self
    have h2 := comeF_len i l rs
    simp only [sumLen, List.map_cons, List.sum_cons] at hs
    rw [eachG, comeS, if_pos ⟨by omega, hl⟩, rowsFrom]
    exact eachG_rows ls (i + 1) _ e (fun x hx => h x (List.mem_cons_of_mem _ hx)) (by simp only [sumLen]; omega)
theorem gapF_rows {ls : List (List ByteArray)} (h1 : ls.length ≤ 16) (hs : sumLen ls ≤ 2000) : gapF ls = ((rowsOf ls).map (rowOut ls.length), 0) := by
  have hle : ∀ l ∈ ls, l.length ≤ sumLen ls := by
    intro l hl
    obtain ⟨a, b, rfl⟩ := List.append_of_mem hl
    simp [sumLen]; omega
  rw [gapF, if_neg (by omega), eachG_rows ls 0 [] 0 (fun l hl => by have := hle l hl; omega) (by simpa using hs), if_neg (fun h => h rfl)]
  rfl
theorem gap_rows {ls : List (List ByteArray)} (h1 : ls.length ≤ 16) (hs : sumLen ls ≤ 2000) (hz : ∀ l ∈ ls, ∀ s ∈ l, s.size ≤ maxLen) : gap_Coalesce.f ls = some ((rowsOf ls).map (rowOut ls.length), 0) := by
  have hle : ∀ l ∈ ls, l.length ≤ sumLen ls := by
    intro l hl
    obtain ⟨a, b, rfl⟩ := List.append_of_mem hl
    simp [sumLen]; omega
  rw [gap_Coalesce.f, if_pos (fun l hl => ⟨by have := hle l hl; omega, hz l hl⟩), gapF_rows h1 hs]
end Go.Proofs.Ytnlekganlliikaa.X
-- part XGapSame
namespace Go.Proofs.Ytnlekganlliikaa.X
open Go.RowKit Go.Proofs.YtnlekganlliikaaW.PrintWords Go.Proofs.YtnlekganlliikaaW.PrintLast Go.Proofs.YtnlekganlliikaaW.PrintMore
set_option linter.unusedVariables false
set_option linter.unusedSimpArgs false
theorem many_of (m : Nat) (h : m < 256) : wrap64 (1 + Int.tmod (wrap64 (m : Int)) 16) = ((1 + m % 16 : Nat) : Int) := by
  rw [gw (x := (m : Int)) (by omega) (by omega), Int.tmod_eq_emod_of_nonneg (by omega), gw (by omega) (by omega)]
  omega
theorem sumLen_replicate (n : Nat) (l : List ByteArray) : sumLen (List.replicate n l) = n * l.length := by
  simp [sumLen]
theorem rowOut_all {n : Nat} (h : n ≤ 16) (s : ByteArray) : rowOut n (allMarks n, s) = ⟨bs (List.replicate n 45), s⟩ := by
  have e : (rowOut n (allMarks n, s)) = ⟨bs (((allMarks n).map markB).take n), s⟩ := rfl
  rw [e, allMarks, List.map_append, List.take_left' (by simp), List.map_replicate]
  rfl
section
variable {l : List ByteArray} {R : List ApiRow} {all : List UInt8}
theorem same_l1 (hl : l.length ≤ 1000) (hR : R = l.map (fun s => (⟨bs all, s⟩ : ApiRow))) : ∀ (r i : Nat), i + r = l.length → Gives (fun k => sennitlaw19_GapSame.l1 k l true (bs all) R 0 (i : Int)) true := by
  have hlen : R.length = l.length := by rw [hR, List.length_map]
  intro r
  induction r with
  | zero =>
    intro i hi
    refine (Gives.of (f := fun k => sennitlaw19_GapSame.j2 k l true (bs all) R 0 (i : Int) false) fun k => ?_).step fun k => ?_
    · show sennitlaw19_GapSame.j2 (k + 1) l true (bs all) R 0 (i : Int) false = _
      rw [sennitlaw19_GapSame.j2, if_neg (by decide), if_pos rfl, if_pos rfl, hlen]
      simp
    · show sennitlaw19_GapSame.l1 (k + 1) l true (bs all) R 0 (i : Int) = _
      rw [sennitlaw19_GapSame.l1, if_neg (by omega)]
  | succ r ih =>
    intro i hi
    have hil : i < l.length := by omega
    have e : rd_T37 R (i : Int) = ⟨bs all, l[i]⟩ := by
      have : rd_T37 R (i : Int) = R[i] := getN (by omega)
      rw [this]; simp [hR]
    refine ((ih (i + 1) (by omega)).step (f := fun k => sennitlaw19_GapSame.j2 k l true (bs all) R 0 (i : Int) true) fun k => ?_).step fun k => ?_
    · show sennitlaw19_GapSame.j2 (k + 1) l true (bs all) R 0 (i : Int) true = _
      rw [sennitlaw19_GapSame.j2, if_pos rfl, if_pos (by omega), if_pos (by omega), e, if_pos rfl, if_pos (by omega), rdOfN hil, if_pos rfl, gw1 (by omega)]
    · show sennitlaw19_GapSame.l1 (k + 1) l true (bs all) R 0 (i : Int) = _
      rw [sennitlaw19_GapSame.l1, if_pos (by omega), decide_eq_true (by omega)]
theorem same19 (l : List ByteArray) (m : Nat) (hm : m < 256) : Gives (fun k => sennitlaw19_GapSame.f k l (m : Int)) true := by
  have hf := ref_few01 l 20 (by omega)
  cases hb : fewB l 20 with
  | false =>
    rw [hb] at hf
    refine Gives.last0 hf fun k hk => ?_
    show sennitlaw19_GapSame.f k l (m : Int) = _
    have hk' : sennitref01_Few.f k l 20 = some false := hk
    rw [sennitlaw19_GapSame.f, awake19, Option.bind_some, hk', Option.bind_some, if_neg (by decide)]
  | true =>
    rw [hb] at hf
    have hfew : l.length ≤ 20 ∧ ∀ s ∈ l, s.size ≤ 100 := by simpa [fewB] using hb
    obtain ⟨n, hn⟩ : ∃ n, 1 + m % 16 = n := ⟨_, rfl⟩
    have hn1 : 1 ≤ n ∧ n ≤ 16 := by omega
    have hsum : sumLen (List.replicate n l) ≤ 2000 := by
      rw [sumLen_replicate]
      have := Nat.mul_le_mul hn1.2 hfew.1
      omega
    have hg := gap_rows (ls := List.replicate n l) (by rw [List.length_replicate]; omega) hsum (fun y hy s hs => by
      rw [List.eq_of_mem_replicate hy] at hs
      have := hfew.2 s hs
      unfold maxLen; omega)
    rw [List.length_replicate, rowsOf_same l n (by omega) (by omega), List.map_map] at hg
    have hR : l.map (rowOut n ∘ fun s => (allMarks n, s)) = l.map (fun s => (⟨bs (List.replicate n 45), s⟩ : ApiRow)) := List.map_congr_left fun s _ => rowOut_all hn1.2 s
    rw [hR] at hg
    have h1 := same_l1 (l := l) (all := List.replicate n 45) (by omega) rfl l.length 0 (by omega)
    have hl0 : ∀ (r i : Nat), i + r = n → Gives (fun k => sennitlaw19_GapSame.l0 k l true (n : Int) (List.replicate i l) (bs (List.replicate i 45)) (i : Int)) true := by
      intro r
      induction r with
      | zero =>
        intro i hi
        obtain rfl : i = n := by omega
        refine h1.step fun k => ?_
        show sennitlaw19_GapSame.l0 (k + 1) l true (i : Int) _ _ (i : Int) = _
        rw [sennitlaw19_GapSame.l0, if_neg (by omega), hg, Option.bind_some]; rfl
      | succ r ih =>
        intro i hi
        have := ih (i + 1) (by omega)
        rw [List.replicate_succ', List.replicate_succ'] at this
        refine this.step fun k => ?_
        show sennitlaw19_GapSame.l0 (k + 1) l true (n : Int) _ _ (i : Int) = _
        rw [sennitlaw19_GapSame.l0, if_pos (by omega), if_pos (by rw [List.length_replicate]; omega), if_pos (by rw [bs_size, List.length_replicate]; omega), gw1 (by omega), ← bs_append]
        rfl
    refine Gives.call0 hf (hl0 n 0 (by omega)) fun k hk => ?_
    show sennitlaw19_GapSame.f k l (m : Int) = _
    have hk' : sennitref01_Few.f k l 20 = some true := hk
    rw [sennitlaw19_GapSame.f, awake19, Option.bind_some, hk', Option.bind_some, if_pos rfl, many_of m hm, hn]; rfl
end
theorem law_GapSame (W : World) (A0 : Option Addr) (c0 : Nat) (l0 : List ByteArray) (hr0 : Kd.C Kd.string W A0 l0.length l0) (hc0 : l0.length ≤ c0) (g0 : l0.length * 16 ≤ 140737488351232 ∧ ∀ y ∈ l0, y.size ≤ 140737488351232) (x1 : Int) (g1 : (Lit.int .u8 x1).wf = true) :
    Calls Try.prog 5 #[.slice A0 l0.length c0, .int .u8 x1] W fun e w' => e = .returned (.bool true) ∧ Below W.heap.size W w' := by
  obtain ⟨m, rfl, hm⟩ := u8N g1
  obtain ⟨k, hk⟩ := same19 l0 m hm
  exact sennitlaw19_GapSame.calls k (fun _ => True) A0 c0 l0 (m : Int) true W (V_of_C Kd.heap_string hr0 hc0) (hk k (Nat.le_refl _))

section
variable {ls : List (List ByteArray)} {R M : List ApiRow}
end
section
variable {ls : List (List ByteArray)} {R M : List ApiRow}
end
end Go.Proofs.Ytnlekganlliikaa.X
