/-
  (*sync.Once).Do for a pair, and (*lcs.Pair).Len: by hand.
-/
import Derived.Test.YtnlekganlliikaaXLcs5
namespace Go.Proofs.Ytnlekganlliikaa.X
open Go.RowKit Go.Proofs.YtnlekganlliikaaW.PrintWords Go.Proofs.YtnlekganlliikaaW.PrintLast Go.Proofs.YtnlekganlliikaaW.PrintMore
set_option linter.unusedVariables false
set_option linter.unusedSimpArgs false

/-- The steps, and how many, of a pair that is reckoned, or not. -/
def PairState (W : World) (g : Nat) (a b : List Int) (d : Int) (st : Value) (long : Int) : Prop :=
  (d = 0 ∧ st = .slice none 0 0 ∧ long = 0) ∨ (d = 1 ∧ long = lcsL a b ∧ ∃ As cs, st = .slice As (a.length * b.length) cs ∧ Kd.F (Kd.int .u8) W (fun k => k ≠ g) As (a.length * b.length) (stepsOf a b))
/-- g is the block of a pair of the lists a and b. -/
def PairIn (W : World) (g : Nat) (a b : List Int) (d : Int) : Prop :=
  ∃ Aa ca Ab cb st long, W.heap[g]? = some (.cells (pairCells (.slice Aa a.length ca) (.slice Ab b.length cb) st d long) 103 (0, 0)) ∧
    Kd.F (Kd.int .i64) W (fun k => k ≠ g) Aa a.length a ∧ Kd.F (Kd.int .i64) W (fun k => k ≠ g) Ab b.length b ∧ a.length ≤ 2000 ∧ b.length ≤ 2000 ∧ PairState W g a b d st long

theorem R_int_at {k : IntKind} {W : World} {g base : Nat} {e : TypeId} {xs : List Int} {ok : Nat → Prop} (h : W.heap[g]? = some (.cells (xs.map (Value.int k)).toArray e (0, 0))) (hb : base ≤ g) (hl : xs.length ≤ maxLen) (ho : ok g) :
    Kd.R (Kd.int k) e W base ok (.slice (some ⟨g, 0, none⟩) xs.length xs.length) xs :=
  ⟨fun j hj => by have : g = j := by simpa [Value.ownBlock] using hj
                  exact this ▸ ho, (R_int_of_cells h hb hl).2⟩

theorem stepsOf_length (a b : List Int) : (stepsOf a b).length = a.length * b.length := by simp [stepsOf]

theorem PairIn.step {W W1 : World} {g : Nat} {a b : List Int} {d : Int} (h : PairIn W g a b d) (hm : ∀ k, k < W.heap.size → W1.heap[k]? = W.heap[k]?) : PairIn W1 g a b d := by
  obtain ⟨Aa, ca, Ab, cb, st, long, h1, h2, h3, h4, h5, h6⟩ := h
  refine ⟨Aa, ca, Ab, cb, st, long, (hm g (blk_lt h1)).trans h1, Kd.F_step h2 (fun k _ hk => hm k hk), Kd.F_step h3 (fun k _ hk => hm k hk), h4, h5, ?_⟩
  rcases h6 with h6 | ⟨e1, e2, As, cs, e3, e4⟩
  · exact .inl h6
  · exact .inr ⟨e1, e2, As, cs, e3, Kd.F_step e4 (fun k _ hk => hm k hk)⟩
theorem PairIn.below {W W1 : World} {g : Nat} {a b : List Int} {d : Int} (h : PairIn W g a b d) (hb : Below W.heap.size W W1) : PairIn W1 g a b d := h.step hb.block
theorem PairIn.of_new {W : World} {base g : Nat} {a b : List Int} (h : IsPair W base g a b) : ∃ d, PairIn W g a b d := by
  obtain ⟨hg, sa, sb, st, d, long, h1, h2, h3, h4, h5, h6⟩ := h
  obtain ⟨Aa, ca, rfl⟩ := Kd.R_slice h2
  obtain ⟨Ab, cb, rfl⟩ := Kd.R_slice h3
  refine ⟨d, Aa, ca, Ab, cb, st, long, h1, Kd.R_F h2, Kd.R_F h3, h4, h5, ?_⟩
  rcases h6 with h6 | ⟨e1, e2, e3⟩
  · exact .inl h6
  · obtain ⟨As, cs, e⟩ := Kd.R_slice e2
    subst e
    rw [stepsOf_length] at e2 ⊢
    exact .inr ⟨e1, e3, As, cs, rfl, Kd.R_F e2⟩

theorem below_grown {N : Nat} {w W W2 : World} {g : Nat} (h : Below N w W) (k : W.grownBy W2 (some g)) (hg : N ≤ g) (hN : N ≤ W.heap.size) : Below N w W2 :=
  h.grown k hN (fun j hj => by have : g = j := by simpa using hj
                               omega)

set_option maxRecDepth 100000 in
set_option maxHeartbeats 1600000 in
/-- sync.Once: reckoned afterwards. -/
theorem once_Do (g : Nat) (a b : List Int) (d : Int) (w : World) (h : PairIn w g a b d) :
    Calls Try.prog 58 #[.pointer (some ⟨g, 2, none⟩), .func (.func 59) #[.pointer (some ⟨g, 0, none⟩)] #[]] w fun e w' => e = .returned (.tuple #[]) ∧ PairIn w' g a b 1 ∧ w.grownBy w' (some g) := by
  have H := Aside0.mk h
  obtain ⟨Aa, ca, Ab, cb, st, long, h1, h2, h3, h4, h5, h6⟩ := h
  have hnot : ∀ (x : Bool) (w : World), (Op.unary .not (.bool x)).run Try.prog w = .ok (.bool (!x)) w := fun _ _ => rfl
  have hc : w.cell? ⟨g, 2, none⟩ = some (.int .u32 d) := cell_blk h1 rfl
  have H1 := Aside0.mk h1
  have H2 := Aside0.mk h2
  have H3 := Aside0.mk h3
  have H6 := Aside0.mk h6
  clear h1 h2 h3 h6
  go_enter Try.func58, Try.ntmps58
  go_wp2_with fail
  refine (bool_load ⟨g, 2, none⟩ d _ hc).mono ?_
  rintro e w1 ⟨rfl, he⟩
  obtain rfl := he.symm
  clear he
  rcases H6.out with ⟨e1, e2, e3⟩ | ⟨e1, e2, As, cs, e3, e4⟩
  · subst e1; subst e2; subst e3
    have hq : ((0 : Int) != 0) = false := rfl
    rw [hq]
    go_wp2_with fail
    refine (once_slow g Aa Ab ca cb a b _ H1.out H2.out H3.out h4 h5).mono ?_
    rintro e w1 ⟨rfl, ⟨gs, q1, q2, q3⟩, q4⟩
    have Q2 := Aside0.mk q2
    have Q3 := Aside0.mk q3
    have Q4 := Aside0.mk q4
    clear q2 q3 q4
    go_wp2_with fail
    go_end0
    have hlt := blk_lt H1.out
    have hne : ∀ k, k ≠ g → k < w.heap.size → w1.heap[k]? = w.heap[k]? := fun k hk hs => Q4.out.block k hs (fun e => hk (Option.some.inj e))
    refine ⟨rfl, ⟨Aa, ca, Ab, cb, _, _, Q2.out, Kd.F_step H2.out hne, Kd.F_step H3.out hne, h4, h5, .inr ⟨rfl, rfl, some ⟨gs, 0, none⟩, a.length * b.length, rfl, ?_⟩⟩, Q4.out⟩
    have hr := R_int_at (base := 0) (ok := fun k => k ≠ g) Q3.out (Nat.zero_le _) (by rw [stepsOf_length]; have := Nat.mul_le_mul h4 h5; simp only [maxLen]; omega) (by omega)
    rw [stepsOf_length] at hr
    exact Kd.R_F hr
  · subst e1
    have hq : ((1 : Int) != 0) = true := rfl
    rw [hq]
    go_wp2_with fail
    go_end0
    exact ⟨rfl, H.out, World.grownBy.refl _ _⟩

set_option maxRecDepth 100000 in
set_option maxHeartbeats 1600000 in
/-- How many are paired. -/
theorem pair_Len (g : Nat) (a b : List Int) (d : Int) (w : World) (h : PairIn w g a b d) :
    Calls Try.prog 33 #[.pointer (some ⟨g, 0, none⟩)] w fun e w' => e = .returned (.int .i64 (lcsL a b : Int)) ∧ PairIn w' g a b 1 ∧ w.grownBy w' (some g) := by
  have hmf : ∀ (fn : Fn) (first cap : Array Value) (w : World), (Instr.makeFunc fn first cap).run Try.prog w = .ok (.func fn first cap) w := fun _ _ _ _ => rfl
  have H := Aside0.mk h
  clear h
  go_enter Try.func33, Try.ntmps33
  go_wp2_with fail
  refine (once_Do g a b d _ H.out).mono ?_
  rintro e w1 ⟨rfl, q1, q2⟩
  have Q1 := Aside0.mk q1
  have Q2 := Aside0.mk q2
  clear q1 q2
  have c4 : w1.cell? ⟨g, 6, none⟩ = some (.int .i64 (lcsL a b : Int)) := by
    obtain ⟨Aa, ca, Ab, cb, st, long, h1, h2, h3, h4, h5, h6⟩ := Q1.out
    rcases h6 with ⟨e1, _⟩ | ⟨_, e2, _⟩
    · cases e1
    · subst e2
      exact cell_blk h1 rfl
  go_wp2_with fail
  go_ret
  exact ⟨rfl, Q1.out, Q2.out⟩

/-- A pair that is nil. -/
theorem pair_Len_nil (w : World) : Calls Try.prog 33 #[.pointer none] w fun e w' => e = .returned (.int .i64 0) ∧ w' = w := by
  go_enter Try.func33, Try.ntmps33
  go_wp2
  go_ret
  exact ⟨rfl, rfl⟩
end Go.Proofs.Ytnlekganlliikaa.X
