/-
  sennitlaw01.LinesMay, LinesSplits, LinesJoins: what the printed laws tell.
-/
import Derived.Test.YtkakcefekabmhaaXLines9
import Derived.Test.YtkakcefekabmhaaXWn1
import Derived.Test.YtkakcefekabmhaaXWn3
import Derived.Test.YtkakcefekabmhaaXWn4
namespace Go.Proofs.Ytkakcefekabmhaa.X
open Go.RowKit Go.Proofs.YtkakcefekabmhaaW.PrintWords Go.Proofs.YtkakcefekabmhaaW.PrintLast Go.Proofs.YtkakcefekabmhaaW.PrintMore
set_option linter.unusedVariables false
set_option linter.unusedSimpArgs false

theorem few_len {l : List ByteArray} {n : Nat} (h : few l n = true) : l.length ≤ n ∧ ∀ s ∈ l, s.size ≤ 100 := of_decide_eq_true h
theorem wf_u8' {x : Int} (h : (Lit.int .u8 x).wf = true) : 0 ≤ x ∧ x < 256 := by
  have e1 : IntKind.u8.min = 0 := rfl
  have e2 : IntKind.u8.max = 255 := rfl
  simp [Lit.wf, go_sem] at h
  omega
theorem law_LinesMay_f (l : List ByteArray) : ∃ k, sennitlaw01_LinesMay.f k l = some true := by
  obtain ⟨K0, h0⟩ := few01 l 30 (by decide)
  by_cases hf : few l 30 = true
  · obtain ⟨h1, h2⟩ := few_len hf
    obtain ⟨K1, h3⟩ := maylines l (by omega) (fun s hs => by have := h2 s hs; omega)
    obtain ⟨K2, h4⟩ := mayref l (by omega) (fun s hs => by have := h2 s hs; omega)
    have h5 := openlines l (by omega) (fun s hs => by have := h2 s hs; omega)
    have h6 := openref l (by omega) (fun s hs => by have := h2 s hs; omega)
    refine ⟨K0 + K1 + K2, ?_⟩
    have e0 := h0 (K0 + K1 + K2) (by omega)
    have e1 := h3 (K0 + K1 + K2) (by omega)
    have e2 := h4 (K0 + K1 + K2) (by omega)
    dsimp only at e0 e1 e2
    rw [hf] at e0
    rw [sennitlaw01_LinesMay.f, awake01.f, Option.bind_some, show (30 : Int) = ((30 : Nat) : Int) from rfl, e0, Option.bind_some, if_pos rfl, if_pos rfl, e1, Option.bind_some, e2, Option.bind_some, if_pos (by simp), h5, Option.bind_some, h6, Option.bind_some]
    simp
  · refine ⟨K0, ?_⟩
    have e0 := h0 K0 (Nat.le_refl _)
    dsimp only at e0
    rw [sennitlaw01_LinesMay.f, awake01.f, Option.bind_some, show (30 : Int) = ((30 : Nat) : Int) from rfl, e0, Option.bind_some, if_neg hf]
theorem law_LinesMay (W : World) (A0 : Option Addr) (c0 : Nat) (l0 : List ByteArray) (hr0 : Kd.C Kd.string W A0 l0.length l0) (hc0 : l0.length ≤ c0) (g0 : l0.length * 16 ≤ 140737488351232 ∧ ∀ y ∈ l0, y.size ≤ 140737488351232) :
    Calls Try.prog 13 #[.slice A0 l0.length c0] W fun e w' => e = .returned (.bool true) ∧ Below W.heap.size W w' := by
  obtain ⟨k, hk⟩ := law_LinesMay_f l0
  exact sennitlaw01_LinesMay.calls k A0 c0 l0 true W hr0 hc0 hk ⟨rfl⟩

theorem lines_le (u : List UInt8) : (linesU u).length ≤ u.length ∧ ∀ s ∈ linesU u, s.length ≤ u.length := by
  induction u using linesU_ind with
  | h0 => rw [linesU_nil]; simp
  | h1 u h ih =>
    have hp := cutU_pos h
    have hl : 0 < u.length := List.length_pos_iff.2 h
    rw [linesU_cons h]
    rw [List.length_drop] at ih
    refine ⟨by rw [List.length_cons]; omega, fun s hs => ?_⟩
    rcases List.mem_cons.1 hs with rfl | hs
    · rw [List.length_take]; omega
    · have := ih.2 s hs; omega
theorem linesT_len (b : List Int) : (linesT b).length ≤ b.length := by
  have := (lines_le (Lib.bytesOf b)).1
  rw [bytesOf_length] at this
  simpa [linesT] using this
theorem linesT_mem {b : List Int} {s : ByteArray} (h : s ∈ linesT b) : s.size ≤ b.length := by
  obtain ⟨u, hu, rfl⟩ := List.mem_map.1 h
  have := (lines_le (Lib.bytesOf b)).2 u hu
  rw [bytesOf_length] at this
  rw [size_len, toList_txt]; exact this
theorem openT_lines (b : List Int) : openT (linesT b) = lastOpen (linesU (Lib.bytesOf b)) := by rw [openT, us_lines]
theorem mayT_lines (b : List Int) : mayT (linesT b) = true := by rw [mayT, us_lines, linesU_may]
theorem split_f {b : List Int} (h : b.length ≤ 1000000000) : lines_Split.f b = some (linesT b) := by rw [lines_Split.f, if_pos h]

theorem law_LinesSplits_f (b : List Int) (h8 : ∀ y ∈ b, 0 ≤ y ∧ y < 256) : ∃ k, sennitlaw01_LinesSplits.f k b = some true := by
  by_cases hl : b.length ≤ 300
  · have hn := linesT_len b
    obtain ⟨K0, h0⟩ := split01 b (by omega) h8
    obtain ⟨K1, h1⟩ := same01 (linesT b) (linesT b) (by omega)
    obtain ⟨K2, h2⟩ := maylines (linesT b) (by omega) (fun s hs => by have := linesT_mem hs; omega)
    have h3 := openlines (linesT b) (by omega) (fun s hs => by have := linesT_mem hs; omega)
    have h4 := openref (linesT b) (by omega) (fun s hs => by have := linesT_mem hs; omega)
    refine ⟨K0 + K1 + K2, ?_⟩
    have e0 := h0 (K0 + K1 + K2) (by omega)
    have e1 := h1 (K0 + K1 + K2) (by omega)
    have e2 := h2 (K0 + K1 + K2) (by omega)
    dsimp only at e0 e1 e2
    rw [decide_eq_true rfl] at e1
    rw [mayT_lines] at e2
    rw [sennitlaw01_LinesSplits.f, awake01.f, Option.bind_some, if_neg (by omega), split_f (by omega), Option.bind_some, if_pos rfl, e0, Option.bind_some, e1, Option.bind_some, if_pos rfl, e2, Option.bind_some, if_pos rfl, h3, Option.bind_some, h4, Option.bind_some, if_pos (by simp), Option.bind_some]
    rw [openT_lines, lastOpen_lines]
    by_cases hp : 0 < b.length
    · have ew : wrap64 ((b.length : Int) - 1) = ((b.length - 1 : Nat) : Int) := by rw [w64' (by omega) (by omega)]; omega
      have hne : Lib.bytesOf b ≠ [] := by simp [Lib.bytesOf]; exact List.length_pos_iff.1 hp
      have hg := h8 _ (List.getElem_mem (show b.length - 1 < b.length by omega))
      have hlast : (Lib.bytesOf b).getLast? = some (UInt8.ofNat (b[b.length - 1]).toNat) := by
        rw [List.getLast?_eq_getElem?, bytesOf_length]
        simp only [Lib.bytesOf, List.getElem?_map]
        rw [List.getElem?_eq_getElem (by omega)]
        rfl
      rw [if_pos (by omega), ew, if_pos (by omega), if_pos (by omega), rd_get' (by omega), hlast]
      have e10 : (UInt8.ofNat (b[b.length - 1]).toNat = 10) ↔ b[b.length - 1] = 10 := by
        rw [← UInt8.toNat_inj, UInt8.toNat_ofNat']
        simp
        omega
      simp only [ne_eq, hne, not_false_eq_true, true_and, Option.some.injEq, e10, Option.some.injEq]
      by_cases e : b[b.length - 1] = 10 <;> simp [e]
    · have hb : b = [] := List.length_eq_zero_iff.1 (by omega)
      subst hb
      rfl
  · exact ⟨0, by rw [sennitlaw01_LinesSplits.f, awake01.f, Option.bind_some, if_pos (by omega)]⟩
theorem law_LinesSplits (W : World) (A0 : Option Addr) (c0 : Nat) (l0 : List Int) (hr0 : Kd.C (Kd.int .u8) W A0 l0.length l0) (hc0 : l0.length ≤ c0) (g0 : l0.length * 1 ≤ 140737488351232 ∧ ∀ y ∈ l0, (Lit.int .u8 y).wf = true) :
    Calls Try.prog 10 #[.slice A0 l0.length c0] W fun e w' => e = .returned (.bool true) ∧ Below W.heap.size W w' := by
  obtain ⟨k, hk⟩ := law_LinesSplits_f l0 (fun y hy => wf_u8' (g0.2 y hy))
  exact sennitlaw01_LinesSplits.calls k A0 c0 l0 true W hr0 hc0 hk ⟨rfl⟩
end Go.Proofs.Ytkakcefekabmhaa.X
