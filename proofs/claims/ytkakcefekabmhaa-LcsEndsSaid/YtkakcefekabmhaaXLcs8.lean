/-
  sennitlaw03.awake and long: by hand.
-/
import Derived.Test.YtkakcefekabmhaaXLcs7
namespace Go.Proofs.Ytkakcefekabmhaa.X
open Go.RowKit Go.Proofs.YtkakcefekabmhaaW.PrintWords Go.Proofs.YtkakcefekabmhaaW.PrintLast Go.Proofs.YtkakcefekabmhaaW.PrintMore
set_option linter.unusedVariables false
set_option linter.unusedSimpArgs false

theorem awake_len : ((lcsL [1, 2, 3] [2, 3, 1] : Nat) : Int) = 2 := by
  simp [lcsL]
theorem PairIn.lt {W : World} {g : Nat} {a b : List Int} {d : Int} (h : PairIn W g a b d) : g < W.heap.size := by
  obtain ⟨Aa, ca, Ab, cb, st, long, h1, _⟩ := h
  exact blk_lt h1
/-- What was made since base, or before, but for the block g, reads behind a change of g. -/
theorem R_grown {W W1 : World} {g base : Nat} {e : TypeId} {α : Type} {d : Kd α} {ok : Nat → Prop} {v : Value} {xs : List α} (h : Kd.R d e W base ok v xs) (k : W.grownBy W1 (some g)) (hg : g < base) : Kd.R d e W1 base ok v xs :=
  Kd.R_mono (Kd.R_step (Kd.R_bound h) (fun j hj hlt => k.block j hlt (fun e => by have := Option.some.inj e; have := hj.2.1; omega))) (fun _ hk => hk.1)
theorem awake_match : matchOf [1, 2, 3] [2, 3, 1] = [-1, 0, 1] := by
  unfold matchOf
  simp [matchFrom, lcsL]

theorem C_lit {w : World} {g : Nat} {t : TypeId} {xs : List Int} {k : IntKind} (h : w.heap[g]? = some (.cells (xs.map (Value.int k)).toArray t (0, 0))) (hl : xs.length ≤ maxLen) : Kd.C (Kd.int k) w (some ⟨g, 0, none⟩) xs.length xs :=
  (Kd.R_reads' (R_int_of_cells (base := 0) h (Nat.zero_le _) hl)).2.2

set_option maxRecDepth 100000 in
set_option maxHeartbeats 4000000 in
theorem awake_calls (w : World) : Calls Try.prog 15 #[] w fun e w' => e = .returned (.bool true) ∧ Below w.heap.size w w' := by
  go_enter Try.func15, Try.ntmps15
  go_wp2_with fail
  have g1 : ((w.alloc (.cells #[.int .i64 1, .int .i64 2, .int .i64 3] 3)).alloc (.cells #[.int .i64 2, .int .i64 3, .int .i64 1] 3)).heap[w.heap.size]? = some (.cells #[.int .i64 1, .int .i64 2, .int .i64 3] 3 (0, 0)) := by
    rw [heap_alloc_old _ _ (by simp)]
    exact blk_new _ _
  have g2 : ((w.alloc (.cells #[.int .i64 1, .int .i64 2, .int .i64 3] 3)).alloc (.cells #[.int .i64 2, .int .i64 3, .int .i64 1] 3)).heap[w.heap.size + 1]? = some (.cells #[.int .i64 2, .int .i64 3, .int .i64 1] 3 (0, 0)) := by
    have h := blk_new (w.alloc (.cells #[.int .i64 1, .int .i64 2, .int .i64 3] 3)) (.cells #[.int .i64 2, .int .i64 3, .int .i64 1] 3)
    simpa using h
  refine (lcs_New_ok (some ⟨w.heap.size, 0, none⟩) 3 [1, 2, 3] (some ⟨w.heap.size + 1, 0, none⟩) 3 [2, 3, 1] _ (C_lit g1 (by decide)) (by decide) (C_lit g2 (by decide)) (by decide) (by decide) (by decide)).mono ?_
  rintro e w1 ⟨g, rfl, hp, hb⟩
  obtain ⟨d, hd⟩ := PairIn.of_new hp
  have HD := Aside0.mk hd
  have HG := Aside0.mk hp.1
  have HB : Aside0 (Below w.heap.size w w1) := Aside0.mk ((below_alloc (below_alloc (Below.refl _ _) _) _).trans (hb.mono (by simp; omega)))
  clear hd hp hb g1 g2
  go_wp2_with fail
  refine (pair_Match g _ _ d _ HD.out).mono ?_
  rintro e w2 ⟨vm, rfl, ho, hd2, hg2⟩
  obtain ⟨Am, cm, rfl⟩ := Kd.R_slice ho
  rw [awake_match] at ho ⊢
  have HO := Aside0.mk ho
  have HD2 := Aside0.mk hd2
  have HG2 := Aside0.mk hg2
  clear ho hd2 hg2
  go_wp2_with fail
  refine (pair_Len g _ _ 1 _ HD2.out).mono ?_
  rintro e w3 ⟨rfl, hd3, hg3⟩
  rw [awake_len]
  have HB3 : Aside0 (Below w.heap.size w w3) := by
    have hg := HG.out
    simp at hg
    have hsz := HB.out.size
    have hsz2 := HG2.out.size
    exact ⟨below_grown (below_grown HB.out HG2.out (by omega) hsz) hg3 (by omega) (by omega)⟩
  have hC : Kd.C (Kd.int .i64) w3 Am 3 [-1, 0, 1] := by
    obtain ⟨_, _, h⟩ := Kd.R_reads' (R_grown HO.out hg3 HD.out.lt)
    exact h
  obtain ⟨gm, cur, rfl, _, _⟩ := R_blk HO.out (by decide)
  have cell : ∀ (i : Nat) (x : Int), i < 3 → rd [-1, 0, 1] i = x → w3.cell? ⟨gm, i, none⟩ = some (.int .i64 x) := by
    intro i x hi hx
    obtain ⟨_, e, c⟩ := Kd.at_int hC i (by omega) (by omega)
    cases e
    rwa [Int.toNat_natCast, addr_add0, hx] at c
  have c0 := cell 0 (-1) (by decide) rfl
  have c1 := cell 1 0 (by decide) rfl
  have c2 := cell 2 1 (by decide) rfl
  clear hd3 hg3 hC cell
  go_wp2
  go_ret
  exact ⟨rfl, HB3.out⟩

def sennitlaw03_awake.f : Option Bool := some true
theorem sennitlaw03_awake.calls (r : Bool) (w : World) (h : sennitlaw03_awake.f = some r) : Calls Try.prog 15 #[] w fun e w' => e = .returned (.bool r) ∧ Below w.heap.size w w' := by
  have h := Option.some.inj h
  subst h
  exact awake_calls w
def sennitlaw03_long.f (a b : List Int) : Option Int := some (if a.length ≤ 2000 ∧ b.length ≤ 2000 then (lcsL a b : Int) else -1)

set_option maxRecDepth 100000 in
set_option maxHeartbeats 4000000 in
theorem sennitlaw03_long.calls (A0 : Option Addr) (c0 : Nat) (l0 : List Int) (A1 : Option Addr) (c1 : Nat) (l1 : List Int) (r : Int) (w : World) (hr0 : Kd.C (Kd.int .i64) w A0 l0.length l0) (hc0 : l0.length ≤ c0) (hr1 : Kd.C (Kd.int .i64) w A1 l1.length l1) (hc1 : l1.length ≤ c1) (h : sennitlaw03_long.f l0 l1 = some r) :
    Calls Try.prog 22 #[.slice A0 l0.length c0, .slice A1 l1.length c1] w fun e w' => e = .returned (.int .i64 r) ∧ Below w.heap.size w w' := by
  have HR0 := Aside0.mk hr0
  have HC0 := Aside0.mk hc0
  have HR1 := Aside0.mk hr1
  have HC1 := Aside0.mk hc1
  have hm0 := Kd.C_max hr0
  have hm1 := Kd.C_max hr1
  clear hr0 hc0 hr1 hc1
  unfold sennitlaw03_long.f at h
  have h := Option.some.inj h
  by_cases hl : l0.length ≤ 2000 ∧ l1.length ≤ 2000
  · rw [if_pos hl] at h
    obtain ⟨hl0, hl1⟩ := hl
    subst h
    go_enter Try.func22, Try.ntmps22
    go_wp2_with fail
    refine (lcs_New_ok A0 c0 l0 A1 c1 l1 _ HR0.out HC0.out HR1.out HC1.out hl0 hl1).mono ?_
    rintro e w1 ⟨g, rfl, hp, hb⟩
    obtain ⟨d, hd⟩ := PairIn.of_new hp
    have HD := Aside0.mk hd
    have HG := Aside0.mk hp.1
    have HB := Aside0.mk hb
    clear hd hp hb
    go_wp2_with fail
    refine (pair_Len g _ _ d _ HD.out).mono ?_
    rintro e w3 ⟨rfl, hd3, hg3⟩
    have HB3 : Aside0 (Below w.heap.size w w3) := ⟨below_grown HB.out hg3 HG.out HB.out.size⟩
    clear hd3 hg3
    go_wp2
    go_ret
    exact ⟨rfl, HB3.out⟩
  · rw [if_neg hl] at h
    subst h
    go_enter Try.func22, Try.ntmps22
    go_wp2_with fail
    refine (lcs_New_long A0 c0 l0 A1 c1 l1 _ hm0 hm1 (by omega)).mono ?_
    rintro e w1 ⟨rfl, he⟩
    obtain rfl := he.symm
    clear he
    go_wp2
    go_ret
    exact ⟨rfl, Below.refl _ _⟩
end Go.Proofs.Ytkakcefekabmhaa.X
