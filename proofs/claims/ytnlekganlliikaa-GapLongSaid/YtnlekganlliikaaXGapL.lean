/-
  sennitlaw19.GapLong: by hand.
-/
import Derived.Test.YtnlekganlliikaaXGn1
import Derived.Test.YtnlekganlliikaaXRn4
import Derived.Test.YtnlekganlliikaaXGap5
import Derived.IntWalk
namespace Go.Proofs.Ytnlekganlliikaa.X
open Go.RowKit Go.Proofs.YtnlekganlliikaaW.PrintWords Go.Proofs.YtnlekganlliikaaW.PrintLast Go.Proofs.YtnlekganlliikaaW.PrintMore
set_option linter.unusedVariables false
set_option linter.unusedSimpArgs false

theorem awake19 : sennitlaw19_awake.f = some true := by decide +kernel
theorem rdOf_getL {α : Type} {d : α} {L : List α} {i : Nat} (h : i < L.length) : rdOf d L (i : Int) = L[i] := by
  simp [rdOf, h]
theorem w64L {x : Int} (h0 : -9223372036854775808 ≤ x) (h1 : x ≤ 9223372036854775807) : wrap64 x = x := w64k h0 (by omega)
theorem u8L {x : Int} (h : (Lit.int .u8 x).wf = true) : 0 ≤ x ∧ x < 256 := by
  have e1 : IntKind.u8.min = 0 := rfl
  have e2 : IntKind.u8.max = 255 := rfl
  simp [Lit.wf, go_sem] at h
  omega
/-- So many texts, of 100 bytes, at most. -/
theorem fewL (l : List ByteArray) (n : Nat) (hn : n ≤ 1000000) : ∀ (r i k : Nat), i + r = n + 1 → 2 * r + 2 ≤ k → sennitref01_Few.l0 k l (n : Int) (i : Int) = some (decide (l.length ≤ n ∧ ∀ s ∈ l.drop i, s.size ≤ 100))
  | 0, i, k + 2, hi, hk => by
    have e : ((l.length : Int) ≤ (n : Int)) = (l.length ≤ n) := by simp
    rw [sennitref01_Few.l0]
    by_cases h : (i : Int) < l.length
    · rw [if_pos h, decide_eq_false (show ¬ ((i : Int) ≤ (n : Int)) by omega), sennitref01_Few.j1, if_neg (by decide), decide_eq_false (by omega), decide_eq_false (by omega)]
    · rw [if_neg h, sennitref01_Few.j1, if_neg (by decide), List.drop_of_length_le (by omega)]
      simp
  | r + 1, i, k + 2, hi, hk => by
    rw [sennitref01_Few.l0]
    by_cases h : (i : Int) < l.length
    · have hd : l.drop i = l[i] :: l.drop (i + 1) := List.drop_eq_getElem_cons (by omega)
      rw [if_pos h, decide_eq_true (show ((i : Int) ≤ (n : Int)) by omega), sennitref01_Few.j1, if_pos rfl, if_pos (by omega), if_pos h, rdOf_getL (by omega), hd]
      by_cases h2 : 100 < l[i].size
      · rw [if_pos (by omega), decide_eq_false]
        rintro ⟨_, h3⟩
        have := h3 l[i] List.mem_cons_self
        omega
      · rw [if_neg (by omega), w64L (by omega) (by omega)]
        have := fewL l n hn r (i + 1) k (by omega) (by omega)
        rw [show ((i + 1 : Nat) : Int) = (i : Int) + 1 from by omega] at this
        rw [this]
        simp only [List.forall_mem_cons, show l[i].size ≤ 100 from by omega, true_and]
    · rw [if_neg h, sennitref01_Few.j1, if_neg (by decide), List.drop_of_length_le (by omega)]
      simp
theorem few20 (l : List ByteArray) : sennitref01_Few.f 44 l 20 = some (decide (l.length ≤ 20 ∧ ∀ s ∈ l, s.size ≤ 100)) := by
  have := fewL l 20 (by omega) 21 0 44 (by omega) (by omega)
  simpa [sennitref01_Few.f] using this
theorem gap_long (l : List ByteArray) (n : Nat) (hl : l.length ≤ 20) (hs : ∀ s ∈ l, s.size ≤ 100) (hn : 2000 < n) (hn2 : n ≤ 100000) : gap_Coalesce.f [l, List.replicate n ByteArray.empty] = some ([], 4) := by
  have h4 : (eachG 0 [l, List.replicate n ByteArray.empty] [] 0).2 = 4 := by
    show (comeS 1 (List.replicate n ByteArray.empty) _ _).2 = 4
    rw [comeS, if_neg (by rw [List.length_replicate]; omega)]
  rw [gap_Coalesce.f, if_pos, gapF, if_neg (by simp), if_pos (by rw [h4]; decide), h4]
  intro y hy
  simp only [List.mem_cons, List.not_mem_nil, or_false] at hy
  rcases hy with rfl | rfl
  · exact ⟨by omega, fun s h => by have := hs s h; unfold maxLen; omega⟩
  · refine ⟨by rw [List.length_replicate]; exact hn2, fun s h => ?_⟩
    rw [List.eq_of_mem_replicate h]
    exact Nat.zero_le _
theorem gap_many (n : Nat) (hn : 16 < n) : gap_Coalesce.f (List.replicate n []) = some ([], 1) := by
  rw [gap_Coalesce.f, if_pos, gapF, if_pos (by rw [List.length_replicate]; exact hn)]
  intro y hy
  rw [List.eq_of_mem_replicate hy]
  simp
theorem gap_none : gap_Coalesce.f [] = some ([], 0) := by
  rw [gap_Coalesce.f, if_pos (by simp)]; rfl
theorem C_repl {α : Type} {d : Kd α} {w : World} {g n : Nat} {t : TypeId} {z : α} {v : Value} (hsz : d.sz = 1) (hK : d.K w z [v]) (h : w.heap[g]? = some (.cells (Array.replicate n v) t (0, 0))) (hn : n ≤ 9223372036854775807) : d.C w (some ⟨g, 0, none⟩) n (List.replicate n z) := by
  refine ⟨by simp, hn, fun _ => ⟨_, rfl, fun j p hp => ⟨[v], by simp [hsz], ?_, fun i u hu => ?_⟩⟩⟩
  · obtain ⟨hj, e⟩ := List.getElem?_eq_some_iff.1 hp
    rw [List.getElem_replicate] at e
    rw [← e]; exact hK
  · have hi : i = 0 := by
      have := (List.getElem?_eq_some_iff.1 hu).1
      simp at this
      exact this
    subst hi
    have hu' : v = u := by simpa using hu
    have hj := (List.getElem?_eq_some_iff.1 hp).1
    rw [List.length_replicate] at hj
    subst hu'
    rw [hsz]
    show w.cell? ((⟨g, 0, none⟩ : Addr).add (j * 1 + 0)) = _
    rw [add0_, Nat.mul_one, Nat.add_zero]
    refine cell_blk h ?_
    simp [hj]

set_option maxRecDepth 100000 in
set_option maxHeartbeats 4000000 in
theorem law_GapLong (W : World) (x0 : Int) (g0 : (Lit.int .u8 x0).wf = true) (A1 : Option Addr) (c1 : Nat) (l1 : List ByteArray) (hr1 : Kd.C Kd.string W A1 l1.length l1) (hc1 : l1.length ≤ c1) (g1 : l1.length * 16 ≤ 140737488351232 ∧ ∀ y ∈ l1, y.size ≤ 140737488351232) :
    Calls Try.prog 8 #[.int .u8 x0, .slice A1 l1.length c1] W fun e w' => e = .returned (.bool true) ∧ Below W.heap.size W w' := by
  have HR1 := Aside0.mk hr1
  have HC1 := Aside0.mk hc1
  clear hr1 hc1 g1
  obtain ⟨m, rfl, hm⟩ : ∃ m : Nat, x0 = (m : Int) ∧ m < 256 := by
    have h := u8L g0
    exact ⟨x0.toNat, by omega, by omega⟩
  clear g0
  have hmk : ∀ W : World, (Instr.makeSlice 34 (.int .i64 (2001 + (m : Int))) (.int .i64 (2001 + (m : Int)))).run Try.prog W = .ok (.slice (some ⟨W.heap.size, 0, none⟩) (2001 + m) (2001 + m)) (W.alloc (.cells (Array.replicate (2001 + m) (.string ⟨#[]⟩)) 9)) := by
    obtain ⟨i0, hi0, hz0⟩ := Option.map_eq_some_iff.1 info9
    simp only [Prod.mk.injEq] at hz0
    obtain ⟨hz, hsz, hby⟩ := hz0
    intro W
    have h := run_make (P := Try.prog) W 34 9 i0 (.string ⟨#[]⟩) Try.underlying34 hi0 hz .i64 .i64 (2001 + (m : Int)) (2001 + (m : Int)) (by omega) (by omega) (by rw [hby]; omega) (by omega)
    rw [h, hsz]
    have e : (2001 + (m : Int)).toNat = 2001 + m := by omega
    rw [e, show (Value.string ⟨#[]⟩).cells = #[Value.string ⟨#[]⟩] from rfl, madeCells_one, List.toArray_replicate]
  have hmk2 : ∀ W : World, (Instr.makeSlice 22 (.int .i64 (17 + (m : Int))) (.int .i64 (17 + (m : Int)))).run Try.prog W = .ok (.slice (some ⟨W.heap.size, 0, none⟩) (17 + m) (17 + m)) (W.alloc (.cells (Array.replicate (17 + m) (.slice none 0 0)) 34)) := by
    obtain ⟨i0, hi0, hz0⟩ := Option.map_eq_some_iff.1 info34
    simp only [Prod.mk.injEq] at hz0
    obtain ⟨hz, hsz, hby⟩ := hz0
    intro W
    have h := run_make (P := Try.prog) W 22 34 i0 (.slice none 0 0) Try.underlying22 hi0 hz .i64 .i64 (17 + (m : Int)) (17 + (m : Int)) (by omega) (by omega) (by rw [hby]; omega) (by omega)
    rw [h, hsz]
    have e : (17 + (m : Int)).toNat = 17 + m := by omega
    rw [e, show (Value.slice none 0 0).cells = #[Value.slice none 0 0] from rfl, madeCells_one, List.toArray_replicate]
  go_enter Try.func8, Try.ntmps8
  go_wp2_with fail
  refine (sennitlaw19_awake.calls true _ awake19).mono ?_
  rintro e w1 ⟨rfl, hb⟩
  have HB1 := Aside0.mk hb
  clear hb
  go_wp2_with fail
  refine (sennitref01_Few.calls 44 A1 c1 l1 20 _ w1 (Kd.C_below HR1.out HB1.out) HC1.out (few20 l1)).mono ?_
  rintro e w2 ⟨rfl, ⟨nd, rfl⟩⟩
  by_cases hf : l1.length ≤ 20 ∧ ∀ s ∈ l1, s.size ≤ 100
  · rw [decide_eq_true hf]
    have HF := Aside0.mk hf
    clear hf
    have sw : wrap64 (2001 + (m : Int)) = 2001 + (m : Int) := w64L (by omega) (by omega)
    have sv : wrap64 (17 + (m : Int)) = 17 + (m : Int) := w64L (by omega) (by omega)
    have sx : wrap64 (m : Int) = (m : Int) := w64L (by omega) (by omega)
    have sw' : IntKind.i64.wrap (2001 + (m : Int)) = 2001 + (m : Int) := IntWalk.i64_in _ (by omega)
    have sv' : IntKind.i64.wrap (17 + (m : Int)) = 17 + (m : Int) := IntWalk.i64_in _ (by omega)
    have sx' : IntKind.i64.wrap (m : Int) = (m : Int) := IntWalk.i64_in _ (by omega)
    go_wp2_with fail
    have hB1n : Below W.heap.size W (w1.drewN nd) := by apply pw_below_drewN; exact HB1.out
    have hn1 : (w1.drewN nd).heap.size = w1.heap.size := by simp
    obtain ⟨WA, hWA⟩ : ∃ WA, (((w1.drewN nd).alloc (.cells (Array.replicate (2001 + m) (.string ⟨#[]⟩)) 9)).alloc (.cells #[.slice A1 l1.length c1, .slice (some ⟨w1.heap.size, 0, none⟩) (2001 + m) (2001 + m)] 34)) = WA := ⟨_, rfl⟩
    have hblk1 : WA.heap[w1.heap.size]? = some (.cells (Array.replicate (2001 + m) (.string ⟨#[]⟩)) 9 (0, 0)) := by
      rw [← hWA, heap_alloc_old _ _ (by simp), ← hn1]; exact blk_new (w1.drewN nd) _
    have hblk2 : WA.heap[w1.heap.size + 1]? = some (.cells #[.slice A1 l1.length c1, .slice (some ⟨w1.heap.size, 0, none⟩) (2001 + m) (2001 + m)] 34 (0, 0)) := by
      rw [← hWA]
      have := blk_new ((w1.drewN nd).alloc (.cells (Array.replicate (2001 + m) (.string ⟨#[]⟩)) 9)) (.cells #[.slice A1 l1.length c1, .slice (some ⟨w1.heap.size, 0, none⟩) (2001 + m) (2001 + m)] 34)
      simpa using this
    have hbA : Below W.heap.size W WA := by
      rw [← hWA]
      exact (hB1n.alloc hB1n.size _).alloc (hB1n.alloc hB1n.size _).size _
    rw [hWA]
    clear hWA hB1n hn1 sw sw'
    have hCr : Kd.C Kd.string WA (some ⟨w1.heap.size, 0, none⟩) (2001 + m) (List.replicate (2001 + m) ByteArray.empty) := C_repl (v := .string ⟨#[]⟩) rfl rfl hblk1 (by omega)
    have hK1 : (Kd.slice 9 Kd.string).K WA l1 [.slice A1 l1.length c1] := ⟨A1, c1, rfl, HC1.out, Kd.C_below HR1.out hbA⟩
    have hK2 : (Kd.slice 9 Kd.string).K WA (List.replicate (2001 + m) ByteArray.empty) [.slice (some ⟨w1.heap.size, 0, none⟩) (2001 + m) (2001 + m)] := ⟨some ⟨w1.heap.size, 0, none⟩, 2001 + m, by rw [List.length_replicate], by rw [List.length_replicate]; exact Nat.le_refl _, by rw [List.length_replicate]; exact hCr⟩
    have hC2 := C_blk (d := Kd.slice 9 Kd.string) (xs := [l1, List.replicate (2001 + m) ByteArray.empty]) (inner := [.slice A1 l1.length c1, .slice (some ⟨w1.heap.size, 0, none⟩) (2001 + m) (2001 + m)]) hblk2 (Reps.one hK1 (Reps.one hK2 (Reps.none _ _))) (by simp)
    refine (gap_Coalesce.calls _ 2 _ _ _ WA hC2 (by simp) (gap_long l1 (2001 + m) HF.out.1 HF.out.2 (by omega) (by omega))).mono ?_
    rintro e w3 ⟨v3, rfl, ho3, hb3⟩
    obtain ⟨A3, c3, rfl⟩ := Kd.R_slice ho3
    have HB3 : Aside0 (Below W.heap.size W w3) := ⟨below_step hbA hb3⟩
    clear ho3 hb3 hC2 hK1 hK2 hCr hbA hblk1 hblk2
    go_wp2_with fail
    have hblk4 := blk_new w3 (.cells (Array.replicate (17 + m) (.slice none 0 0)) 34)
    have hC4 : Kd.C (Kd.slice 9 Kd.string) (w3.alloc (.cells (Array.replicate (17 + m) (.slice none 0 0)) 34)) (some ⟨w3.heap.size, 0, none⟩) (17 + m) (List.replicate (17 + m) []) := C_repl (z := ([] : List ByteArray)) (v := .slice none 0 0) rfl ⟨none, 0, rfl, Nat.le_refl _, Kd.C_nil _ _⟩ hblk4 (by omega)
    have hN := gap_Coalesce.calls (some ⟨w3.heap.size, 0, none⟩) (17 + m) (List.replicate (17 + m) []) [] 1 (w3.alloc (.cells (Array.replicate (17 + m) (.slice none 0 0)) 34)) (by rw [List.length_replicate]; exact hC4) (by rw [List.length_replicate]; exact Nat.le_refl _) (gap_many (17 + m) (by omega))
    rw [List.length_replicate] at hN
    refine hN.mono ?_
    rintro e w4 ⟨v4, rfl, ho4, hb4⟩
    obtain ⟨A4, c4, rfl⟩ := Kd.R_slice ho4
    have HB4 : Aside0 (Below W.heap.size W w4) := ⟨below_step (HB3.out.alloc HB3.out.size _) hb4⟩
    clear ho4 hb4 hN hC4 hblk4 sv sv' sx sx' hmk hmk2
    go_wp2_with fail
    refine (gap_Coalesce.calls none 0 [] [] 0 _ (Kd.C_nil _ _) (Nat.le_refl _) gap_none).mono ?_
    rintro e w5 ⟨v5, rfl, ho5, hb5⟩
    obtain ⟨A5, c5, rfl⟩ := Kd.R_slice ho5
    have HB5 : Aside0 (Below W.heap.size W w5) := ⟨below_step HB4.out hb5⟩
    clear ho5 hb5
    go_wp2
    go_ret
    exact ⟨rfl, HB5.out⟩
  · rw [decide_eq_false hf]
    go_wp2
    go_ret
    exact ⟨rfl, by apply pw_below_drewN; exact HB1.out⟩
end Go.Proofs.Ytnlekganlliikaa.X
