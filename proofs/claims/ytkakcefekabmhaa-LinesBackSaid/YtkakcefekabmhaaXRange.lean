/-
  A range over a function whose iterator keeps state in cells of its own, and whose body never leaves: one law, over an invariant that both parties know.
-/
import Derived.RangeFuncNested
import Derived.RangeFuncBound
import Derived.RangeFuncCalls
import Derived.RangeFuncLeaves
import Derived.RangeFuncOwn
namespace Go.Proofs.Ytkakcefekabmhaa.X
open Go.RowKit
set_option linter.unusedVariables false

/-- The iterator's side: whatever the rounds keep (B: of what is no cells), it goes from s0 to a state that is S. -/
def IterGoes {σ α : Type} (F : Fence) (n : Nat) (P : Program) (gf : Nat) (lb : Array Value) (encs : α → Array Value) (I : σ → World → Prop) (ok : σ → α → Prop) (step : σ → α → σ) (S : σ → Prop) (s0 : σ) : Prop :=
  ∀ (l : Nat) (B : World → Prop), (∀ W W', B W → KeepsOthers W W' → B W') →
    (∀ s x W, I s W → B W → ok s x → YieldAt F (n - 1) P l (encs x) W fun e W' => e = .returned (.bool true) ∧ I (step s x) W' ∧ B W') →
    ∀ W, I s0 W → B W → CallsIn F n P gf (#[.func (.yield l) #[] #[]] ++ lb) W fun e W' => (∃ v, e = .returned v) ∧ ∃ s, S s ∧ I s W' ∧ B W'

theorem wpIn_range_cells {σ α : Type} {F : Fence} {n : Nat} {P : Program} {g : Operand} {ps : Array Tmp} {assign body : Code} {Q : Exit → Act → World → Prop} {a : Act} {w : World}
    (hro : F.round = none) (h1 : 1 ≤ n) {gf : Nat} {lb : Array Value} (hg : a.eval g = .func (.func gf) #[] lb) (hFg : F.fn gf) (eg : ∀ args w, (callFunc gf args).run P w = .ok (.enter gf args) w)
    {encs : α → Array Value} (hps : ∀ x, (encs x).size = ps.size) {I : σ → World → Prop} {ok : σ → α → Prop} {step : σ → α → σ} {S : σ → Prop} {s0 : σ}
    (hit : IterGoes F (n - 1) P gf lb encs I ok step S s0)
    (hput : ∀ s W (r : Nat) (o o' : Obj), I s W → w.heap.size ≤ r → W.heap[r]? = some o → o.isCells = false → I s (W.putObj r o'))
    (halloc : ∀ s W (o : Obj), I s W → I s (W.alloc o)) (h0 : I s0 w) (a1 : α → Act)
    (hassign : ∀ (l : Nat) (x : α) (W : World) (K : Act → World → Prop), K (a1 x) W →
      assign.wpIn (F.inRound l) (n - 1 - 1) P (Exit.then K (fun _ _ _ => False)) { tmps := (ps.zip (encs x)).foldl (fun t (p, v) => t.setIfInBounds p v) a.tmps, defers := [] } W)
    (hbody : ∀ (l : Nat) (s : σ) (x : α) (W : World), I s W → ok s x → body.wpIn (F.inRound l) (n - 1 - 1) P (fun e _ W' => e = .normal ∧ KeepsOthers W W' ∧ I (step s x) W') (a1 x) W)
    (hdone : ∀ (s : σ) (W : World), S s → I s W → W.heap[w.heap.size]? = some (.deferred (some [])) → Q .normal { a with defers := { target := .collected w.heap.size, args := #[] } :: a.defers } W) :
    (Code.rangeFunc g ps assign body).wpIn F n P Q a w := by
  refine wpIn_rangeFunc fun fn hfn => ?_
  rw [hro]
  let rec_ : LoopState → Option Code → Loop := fun st pe => { state := st, pending := pe, fn := fn, tmps := a.tmps, params := ps, assign := assign, body := body, defers := w.heap.size }
  let W1 := (w.alloc (.deferred (some []))).alloc (.loop (rec_ .ready none))
  have hl1 : W1.heap[w.heap.size + 1]? = some (.loop (rec_ .ready none)) := by
    have := World.alloc_heap_new (w.alloc (.deferred (some []))) (.loop (rec_ .ready none))
    rwa [World.size_alloc] at this
  have hd1 : W1.heap[w.heap.size]? = some (.deferred (some [])) := (Below.heap_alloc _ _ _ (by simp)).trans (World.alloc_heap_new w _)
  refine ⟨w.heap.size + 1, [{ target := .collected w.heap.size, args := #[] }], W1, { target := .fn (.func gf) lb, args := #[.func (.yield (w.heap.size + 1)) #[] #[]] }, W1, gf,
    #[.func (.yield (w.heap.size + 1)) #[] #[]] ++ lb, W1, run_enterLoop_outer _ _ _ _ _, ?_, ?_, ?_, fun _ => h1, ?_⟩
  · simp only [resolve, hg]
    simp [go_sem]
  · intro f' hf'
    simp [Target.leads] at hf'
    subst hf'
    exact hFg
  · simp [invoke, go_sem, eg]
  · refine (hit (w.heap.size + 1) (fun W => W.heap[w.heap.size + 1]? = some (.loop (rec_ .ready none)) ∧ W.heap[w.heap.size]? = some (.deferred (some [])))
      (fun W W' h k => ⟨k.same _ _ h.1 rfl, k.same _ _ h.2 rfl⟩) ?_ W1 (halloc _ _ _ (halloc _ _ _ h0)) ⟨hl1, hd1⟩).mono ?_
    · rintro s x W hI ⟨hl, hd⟩ hok
      have hlt : w.heap.size + 1 < W.heap.size := (Array.getElem?_eq_some_iff.1 hl).1
      refine ⟨fn, _, assign, body, run_yield (P := P) (args := encs x) hl (hps x), roundIn_of_wpIn hfn (hassign _ x W _ ⟨_, run_beginRound hl rfl, ?_⟩)⟩
      have hl2 : (W.putObj (w.heap.size + 1) (.loop (rec_ .busy none))).heap[w.heap.size + 1]? = some (.loop (rec_ .busy none)) := World.putObj_heap_same hlt
      have hd2 : (W.putObj (w.heap.size + 1) (.loop (rec_ .busy none))).heap[w.heap.size]? = some (.deferred (some [])) := (World.putObj_heap_other (by omega)).trans hd
      refine wpIn_mono (hbody _ s x _ (hput _ _ _ _ _ hI (by omega) hl rfl) hok) ?_
      rintro e a3 W3 ⟨rfl, hk3, hi3⟩
      have hl3 := hk3.same _ _ hl2 rfl
      have hd3 := hk3.same _ _ hd2 rfl
      exact ⟨_, _, run_endRound (P := P) none hl3, rfl, hput _ _ _ _ _ hi3 (by omega) hl3 rfl, World.putObj_heap_same (Array.getElem?_eq_some_iff.1 hl3).1, (World.putObj_heap_other (by omega)).trans hd3⟩
    · rintro e W2 ⟨⟨v, rfl⟩, s, hS, hi, hl, hd⟩
      exact ⟨none, _, run_endLoop (P := P) hl (by simp [rec_]), hdone s _ hS (hput _ _ _ _ _ hi (by omega) hl rfl) ((World.putObj_heap_other (by omega)).trans hd)⟩
end Go.Proofs.Ytkakcefekabmhaa.X
