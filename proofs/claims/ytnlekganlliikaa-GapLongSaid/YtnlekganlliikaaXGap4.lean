/-
  gap.each over (*gap.rows).come, a method value: by hand.
-/
import Derived.Test.YtnlekganlliikaaXGap3
namespace Go.Proofs.Ytnlekganlliikaa.X
open Go.RowKit Go.Proofs.YtnlekganlliikaaW.PrintWords Go.Proofs.YtnlekganlliikaaW.PrintLast Go.Proofs.YtnlekganlliikaaW.PrintMore
set_option linter.unusedVariables false
set_option linter.unusedSimpArgs false

/-- The rows, and the error, when lists come one behind the other, from column i on. -/
def eachG : Nat → List (List ByteArray) → List RowG → Int → List RowG × Int
  | _, [], rs, e => (rs, e)
  | i, l :: ls, rs, e => eachG (i + 1) ls (comeS i l rs e).1 (comeS i l rs e).2
theorem eachG_snoc : ∀ (ls : List (List ByteArray)) (i : Nat) (l : List ByteArray) (rs : List RowG) (e : Int),
    eachG i (ls ++ [l]) rs e = comeS (i + ls.length) l (eachG i ls rs e).1 (eachG i ls rs e).2
  | [], i, l, rs, e => by simp [eachG]
  | x :: ls, i, l, rs, e => by
    rw [List.cons_append, eachG, eachG_snoc ls, eachG, List.length_cons, show i + 1 + ls.length = i + (ls.length + 1) by omega]
theorem comeGo_all (P : ByteArray → Prop) (col : Nat) (list : List ByteArray) (h : ∀ s ∈ list, P s) : ∀ (ms : List Int) (rs : List RowG) (a : Nat), (∀ x ∈ rs, P x.2) → ∀ x ∈ comeGo col list ms rs a, P x.2
  | [], rs, a, hr => by
    rw [comeGo_nil]
    intro x hx
    obtain ⟨s, hs, rfl⟩ := List.mem_map.1 hx
    exact h s (List.mem_of_mem_drop hs)
  | m :: ms, [], a, hr => by
    intro x hx
    obtain ⟨s, hs, rfl⟩ := List.mem_map.1 hx
    exact h s (List.mem_of_mem_drop hs)
  | m :: ms, y :: rs, a, hr => by
    have ih := comeGo_all P col list h ms rs
    intro x hx
    have hy := hr y List.mem_cons_self
    have hr' : ∀ x ∈ rs, P x.2 := fun x hx => hr x (List.mem_cons_of_mem _ hx)
    rw [comeGo] at hx
    split at hx
    · rcases List.mem_append.1 hx with hx | hx
      · obtain ⟨s, hs, rfl⟩ := List.mem_map.1 hx
        exact h s (List.mem_of_mem_take (List.mem_of_mem_drop hs))
      · rcases List.mem_cons.1 hx with rfl | hx
        · exact hy
        · exact ih _ hr' x hx
    · rcases List.mem_cons.1 hx with rfl | hx
      · exact hy
      · exact ih _ hr' x hx
/-- What holds of rows all along: few, and their texts. -/
def RowsOk (P : ByteArray → Prop) (rs : List RowG) : Prop := rs.length ≤ 4000 ∧ ∀ x ∈ rs, P x.2
theorem comeS_ok {P : ByteArray → Prop} {col : Nat} {list : List ByteArray} {rs : List RowG} {e : Int} (h : ∀ s ∈ list, P s) (hr : RowsOk P rs) : RowsOk P (comeS col list rs e).1 := by
  rw [comeS]
  split
  · rename_i hk
    exact ⟨by have := comeF_len col list rs; show (comeF col list rs).length ≤ 4000; omega, comeGo_all P col list h _ _ _ hr.2⟩
  · exact hr
theorem eachG_ok {P : ByteArray → Prop} : ∀ (ls : List (List ByteArray)) (i : Nat) (rs : List RowG) (e : Int), (∀ l ∈ ls, ∀ s ∈ l, P s) → RowsOk P rs → RowsOk P (eachG i ls rs e).1
  | [], i, rs, e, _, hr => hr
  | l :: ls, i, rs, e, h, hr => eachG_ok ls (i + 1) _ _ (fun l hl => h l (List.mem_cons_of_mem _ hl)) (comeS_ok (h l List.mem_cons_self) hr)

set_option maxRecDepth 100000 in
set_option maxHeartbeats 4000000 in
theorem gap_each (g B c : Nat) (A : Option Addr) (lists : List (List ByteArray)) (w0 w : World) (h : RowsIn w B g [] 0) (hC : Kd.C (Kd.slice 9 Kd.string) w0 A lists.length lists) (hc : lists.length ≤ c) (hcol : lists.length ≤ 16)
    (hl : ∀ l ∈ lists, l.length ≤ 100000) (hz : ∀ l ∈ lists, ∀ s ∈ l, s.size ≤ maxLen) (hB : B = w0.heap.size) (hw : Below B w0 w) :
    Calls Try.prog 38 #[.slice A lists.length c, .func (.func 39) #[.pointer (some ⟨g, 0, none⟩)] #[]] w fun e' w' => e' = .returned (.tuple #[]) ∧
      Aside0 (RowsIn w' B g (eachG 0 lists [] 0).1 (eachG 0 lists [] 0).2) ∧ Aside0 (Below B w w') := by
  have HC := Aside0.mk hC
  have HL := Aside0.mk hl
  have HZ := Aside0.mk hz
  have HB := Aside0.mk hB
  have HW := Aside0.mk hw
  have HI := Aside0.mk h
  clear hC hl hz hB hw h
  go_enter Try.func38, Try.ntmps38
  go_wp2_with fail
  go_loopw [8] (fun i wr => ∃ k : Nat, k ≤ lists.length ∧ i = .int .i64 k ∧ Aside0 (RowsIn wr B g (eachG 0 (lists.take k) [] 0).1 (eachG 0 (lists.take k) [] 0).2) ∧ Aside0 (Below B w wr)) (fun i _ => lists.length - (intOf i).toNat)
  case atStart => exact ⟨0, Nat.zero_le _, rfl, HI, ⟨Below.refl _ _⟩⟩
  case round =>
    obtain ⟨k, hk, rfl, HIr, HBr⟩ := hrel
    by_cases hlt : k < lists.length
    · obtain ⟨ad, A5, c5, rfl, hrow, hc5, hC5⟩ := at_slice HC.out k hlt
      have HWr : Aside0 (Below B w0 wr) := ⟨HW.out.trans HBr.out⟩
      have HW2 : Aside0 (Below w0.heap.size w0 wr) := ⟨by rw [← HB.out]; exact HWr.out⟩
      replace hrow := (HW2.out.cell (World.block_lt_of_cell? w0 _ hrow)).trans hrow
      obtain ⟨l, hle⟩ : ∃ l, lists.getD k [] = l := ⟨_, rfl⟩
      have htk : lists.take (k + 1) = lists.take k ++ [l] := by rw [← hle, getD_get hlt, List.take_append_getElem hlt]
      have hlm : l ∈ lists := by rw [← hle, getD_get hlt]; exact List.getElem_mem hlt
      rw [hle] at hrow hc5 hC5
      have HC5 : Aside0 (Kd.C Kd.string wr A5 l.length l) := ⟨Kd.C_below hC5 HW2.out⟩
      have Hc5 := Aside0.mk hc5
      have HLM := Aside0.mk hlm
      have HTK := Aside0.mk htk
      have HOK : Aside0 (RowsOk (fun s => s.size ≤ maxLen) (eachG 0 (lists.take k) [] 0).1) := ⟨eachG_ok _ _ _ _ (fun l hl => HZ.out l (List.mem_of_mem_take hl)) ⟨by simp, by simp⟩⟩
      have HSN : Aside0 (eachG 0 (lists.take (k + 1)) [] 0 = comeS k l (eachG 0 (lists.take k) [] 0).1 (eachG 0 (lists.take k) [] 0).2) := ⟨by
        rw [htk, eachG_snoc, List.length_take_of_le hk, Nat.zero_add]⟩
      clear hc5 hC5 hle htk hlm
      go_wp2_with fail
      refine (rows_come g B k _ _ A5 c5 l _ HIr.out HC5.out Hc5.out (by omega) (by have := HOK.out.1; omega) (HL.out l HLM.out) HOK.out.2 (HZ.out l HLM.out) (by rw [HB.out]; exact HW2.out.size)).mono ?_
      rintro e' w' ⟨rfl, HI', HB'⟩
      go_wp2
      go_roundw
      case measure => simp [intOf]; omega
      case rel => exact ⟨k + 1, by omega, by go_num, by rw [HSN.out]; exact HI', ⟨HBr.out.trans HB'.out⟩⟩
    · have hk' : k = lists.length := by omega
      subst hk'
      rw [List.take_length] at HIr
      go_wp2
      go_end0
      exact ⟨rfl, HIr, HBr⟩
end Go.Proofs.Ytnlekganlliikaa.X
