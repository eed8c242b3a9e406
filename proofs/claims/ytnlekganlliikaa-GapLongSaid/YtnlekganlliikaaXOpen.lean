/-
  Own words of this session: what an argument that reads as data says of its cells, kind by kind (Opens); sizes out of a row's weights.
-/
import Derived.Test.YtnlekganlliikaaX0
import Derived.OpenShut
import Derived.ProofKit
import Derived.Deep.Slices
import Derived.SizedLaws
import Derived.Lib.SmallJoins
namespace Go.Proofs.Ytnlekganlliikaa.X
open Go.RowKit Go.Proofs.YtnlekganlliikaaW.PrintWords Go.Deep
set_option linter.unusedVariables false

/-- No part of it is larger than memory. -/
def Light {H : Type} (P : Program) (t : TypeId) (d : DataW H) : Prop := ∀ n ∈ d.weights P t, n ≤ 140737488351232
/-- Whatever reads as data of type t, and is light, has cells of the kind d, and is good. -/
def Opens {α : Type} (P : Program) (t : TypeId) (d : Kd α) (good : α → Prop) : Prop :=
  ∀ {H : Type} (enc : TypeId × Value → H) (w : World) (fuel : Nat) (cs : List Value) (x : DataW H × List MemPlace),
    DataW.trod enc P w 0 (fun _ => true) true fuel t cs = some x → Light P t x.1 → ∃ y, d.K w y cs ∧ good y

theorem opens_int {P : Program} {t : TypeId} {k : IntKind} (ht : P.underlying t = some (.int k)) : Opens P t (Kd.int k) (fun n => (Lit.int k n).wf = true) := by
  intro H enc w fuel cs x h _
  obtain ⟨n, rfl, _, hw⟩ := DataW.trod_int ht h
  exact ⟨n, rfl, hw⟩
theorem opens_bool {P : Program} {t : TypeId} (ht : P.underlying t = some .bool) : Opens P t Kd.bool (fun _ => True) := by
  intro H enc w fuel cs x h _
  obtain ⟨b, rfl, _⟩ := DataW.trod_bool ht h
  exact ⟨b, rfl, trivial⟩
theorem opens_string {P : Program} {t : TypeId} (ht : P.underlying t = some .string) : Opens P t Kd.string (fun s => s.size ≤ 140737488351232) := by
  intro H enc w fuel cs x h hl
  obtain ⟨s, rfl, rfl, hs⟩ := DataW.trod_string ht h
  refine ⟨s, rfl, ?_⟩
  have := hl s.data.toList.length (by simp [DataW.weights])
  simpa using this
theorem mem_weightsAll {H : Type} {P : Program} {e : TypeId} {n : Nat} : ∀ {l : List (DataW H)} {d : DataW H}, d ∈ l → n ∈ d.weights P e → n ∈ DataW.weightsAll P e l
  | d0 :: l, d, h, hn => by
    simp only [DataW.weightsAll, List.mem_append]
    rcases List.mem_cons.1 h with rfl | h
    · exact .inl hn
    · exact .inr (mem_weightsAll h hn)

theorem pick_list {α : Type} {Q : Nat → α → Prop} : ∀ n : Nat, (∀ i, i < n → ∃ y, Q i y) → ∃ ys : List α, ys.length = n ∧ ∀ (i : Nat) (y : α), ys[i]? = some y → Q i y
  | 0, _ => ⟨[], rfl, fun i y h => by simp at h⟩
  | n + 1, h => by
    obtain ⟨ys, hl, hq⟩ := pick_list n (fun i hi => h i (by omega))
    obtain ⟨y, hy⟩ := h n (by omega)
    refine ⟨ys ++ [y], by simp [hl], fun i z hz => ?_⟩
    rcases Nat.lt_or_ge i ys.length with hi | hi
    · rw [List.getElem?_append_left hi] at hz
      exact hq i z hz
    · have hi' : i = n := by
        have := (List.getElem?_eq_some_iff.1 hz).1
        simp at this
        omega
      subst hi'
      rw [List.getElem?_append_right hi, hl] at hz
      simp at hz
      exact hz ▸ hy

theorem opens_slice {α : Type} {P : Program} {t e : TypeId} {d : Kd α} {good : α → Prop} (ht : P.underlying t = some (.slice e)) (hc : P.cellsOf e = d.sz) {B : Nat} (hB : P.bytesOf e = B) (hd : Opens P e d good) :
    Opens P t (Kd.slice e d) (fun l => l.length * B ≤ 140737488351232 ∧ ∀ y ∈ l, good y) := by
  intro H enc w fuel cs x h hw
  rcases open_slice ht h with ⟨rfl, _⟩ | ⟨a, len, cap, m, n, D, Pl, rfl, _, hl, hm, hmm, rfl, hx⟩
  · exact ⟨[], ⟨none, 0, rfl, Nat.le_refl _, rfl, by simp, fun h => absurd h (by simp)⟩, by simp, by simp⟩
  · have hle : len ≤ m := by
      rw [hmm]
      simp
      exact hl
    have hD : ∀ i, i < len → Light P e (D i) := fun i hi n hn => hw n (by
      simp only [DataW.weights, ht]
      exact List.mem_cons_of_mem _ (List.mem_append_left _ (mem_weightsAll (List.mem_map.2 ⟨i, List.mem_range.2 hi, rfl⟩) hn)))
    have hS : len * B ≤ 140737488351232 := by
      have z := hw _ (by simp only [DataW.weights, ht]; exact List.mem_cons_self)
      rw [hB] at z
      simp only [List.length_map, List.length_range] at z
      exact Nat.le_trans (Nat.mul_le_mul_right _ (Nat.le_add_right _ _)) z
    obtain ⟨ys, hyl, hyq⟩ := pick_list (Q := fun i y => ∃ c, w.cells? 0 (a.add (i * d.sz)) d.sz = some c ∧ d.K w y c ∧ good y) len (fun i hi => by
      obtain ⟨c, h1, h2⟩ := hx i (by omega)
      obtain ⟨y, h3, h4⟩ := hd enc w n c _ h2 (hD i hi)
      rw [hc] at h1
      exact ⟨y, c, h1, h3, h4⟩)
    refine ⟨ys, ⟨some a, cap, by rw [hyl], by omega, rfl, ?_, fun _ => ⟨a, rfl, fun j p hp => ?_⟩⟩, ?_, fun y hy => ?_⟩
    · unfold maxLen at hm; omega
    · obtain ⟨c, h1, h3, _⟩ := hyq j p hp
      obtain ⟨_, hlen, hcell⟩ := World.cells?_some h1
      refine ⟨c, hlen, h3, fun i u hu => ?_⟩
      have hi : i < d.sz := by rw [← hlen]; exact (List.getElem?_eq_some_iff.1 hu).1
      rw [← Go.Deep.add_add, hcell i hi, hu]
    · rw [hyl]; exact hS
    · obtain ⟨j, hj, rfl⟩ := List.mem_iff_getElem.1 hy
      obtain ⟨_, _, _, hg⟩ := hyq j _ (List.getElem?_eq_getElem hj)
      exact hg

theorem opens_iso {α β : Type} {P : Program} {t : TypeId} {d : Kd α} {good : α → Prop} (f : β → α) (hf : ∀ y, ∃ x, f x = y) (hd : Opens P t d good) : Opens P t (Kd.iso d f) (fun x => good (f x)) := by
  intro H enc w fuel cs x h hw
  obtain ⟨y, h1, h2⟩ := hd enc w fuel cs x h hw
  obtain ⟨z, rfl⟩ := hf y
  exact ⟨z, h1, h2⟩

theorem pair_K {α β : Type} {a : Kd α} {b : Kd β} {w : World} {x : α} {y : β} {cs : List Value} (h0 : a.K w x (cs.take a.sz)) (h1 : b.K w y (cs.drop a.sz)) : (Kd.pair a b).K w (x, y) cs :=
  ⟨_, _, (List.take_append_drop _ _).symm, h0, h1⟩

/-- Fields, one behind the other, from a cell on. -/
def OpensF {α : Type} (P : Program) (fs : List Field) (off : Nat) (d : Kd α) (good : α → Prop) : Prop :=
  ∀ {H : Type} (enc : TypeId × Value → H) (w : World) (n : Nat) (cs : List Value) (xs : List (DataW H × List MemPlace)),
    (∀ (i : Nat) (f : Field), fs[i]? = some f → DataW.trod enc P w 0 (fun _ => true) true n f.type ((cs.drop f.offset).take (P.cellsOf f.type)) = xs[i]?) → xs.length = fs.length → cs.length = off + d.sz →
    (∀ m ∈ DataW.weightsEach P (fs.map (·.type)) (xs.map (·.1)), m ≤ 140737488351232) → ∃ y, d.K w y (cs.drop off) ∧ good y
theorem opensF_one {α : Type} {P : Program} {f : Field} {off : Nat} {d : Kd α} {good : α → Prop} (ho : f.offset = off) (hs : P.cellsOf f.type = d.sz) (h : Opens P f.type d good) : OpensF P [f] off d good := by
  intro H enc w n cs xs hx hl hc hw
  match xs, hl with
  | [x], _ =>
    have h0 := hx 0 f rfl
    rw [ho, hs, List.take_of_length_le (by rw [List.length_drop]; omega)] at h0
    exact h enc w n _ _ h0 (fun m hm => hw m (by simp [DataW.weightsEach, hm]))
theorem opensF_cons {α β : Type} {P : Program} {f : Field} {fs : List Field} {off : Nat} {a : Kd α} {b : Kd β} {ga : α → Prop} {gb : β → Prop} (ho : f.offset = off) (hs : P.cellsOf f.type = a.sz) (h : Opens P f.type a ga) (hr : OpensF P fs (off + a.sz) b gb) :
    OpensF P (f :: fs) off (Kd.pair a b) (fun x => ga x.1 ∧ gb x.2) := by
  intro H enc w n cs xs hx hl hc hw
  match xs, hl with
  | x :: xs, hl =>
    have h0 := hx 0 f rfl
    rw [ho, hs] at h0
    obtain ⟨y0, k0, g0⟩ := h enc w n _ _ h0 (fun m hm => hw m (by simp [DataW.weightsEach, hm]))
    obtain ⟨y1, k1, g1⟩ := hr enc w n cs xs (fun i f hf => hx (i + 1) f hf) (by simpa using hl) (by rw [hc]; show off + (a.sz + b.sz) = _; omega) (fun m hm => hw m (by simp only [List.map_cons, DataW.weightsEach, List.mem_append]; exact .inr hm))
    exact ⟨(y0, y1), pair_K k0 (by rw [List.drop_drop]; exact k1), g0, g1⟩
theorem opens_struct {α : Type} {P : Program} {t : TypeId} {fs : Array Field} {d : Kd α} {good : α → Prop} (ht : P.underlying t = some (.struct fs)) (hl : P.cellsOf t = d.sz) (h : OpensF P fs.toList 0 d good) : Opens P t d good := by
  intro H enc w fuel cs x hx hw
  obtain ⟨xs, n, _, rfl, hcl, hxl, hx⟩ := DataW.trod_struct ht hx
  exact h enc w n cs xs (fun i f hf => hx i f (by simpa using hf)) (by simpa using hxl) (by omega) (fun m hm => hw m (by simpa [DataW.weights, ht] using hm))

/-- Elements of an array, one behind the other, from one on. -/
def OpensA {α : Type} (P : Program) (e : TypeId) (sz i n : Nat) (d : Kd α) (good : α → Prop) : Prop :=
  ∀ {H : Type} (enc : TypeId × Value → H) (w : World) (m : Nat) (cs : List Value) (xs : List (DataW H × List MemPlace)),
    (∀ j : Nat, i ≤ j → j < i + n → DataW.trod enc P w 0 (fun _ => true) true m e ((cs.drop (j * sz)).take sz) = xs[j]?) → xs.length = i + n → cs.length = i * sz + d.sz →
    (∀ x ∈ xs, Light P e x.1) → ∃ y, d.K w y (cs.drop (i * sz)) ∧ good y
theorem opensA_one {α : Type} {P : Program} {e : TypeId} {sz i : Nat} {d : Kd α} {good : α → Prop} (hs : sz = d.sz) (h : Opens P e d good) : OpensA P e sz i 1 d good := by
  intro H enc w m cs xs hx hl hc hw
  have h0 := hx i (Nat.le_refl _) (by omega)
  rw [List.getElem?_eq_getElem (by omega), List.take_of_length_le (by rw [List.length_drop]; omega)] at h0
  exact h enc w m _ _ h0 (hw _ (List.getElem_mem _))
theorem opensA_cons {α β : Type} {P : Program} {e : TypeId} {sz i n : Nat} {a : Kd α} {b : Kd β} {ga : α → Prop} {gb : β → Prop} (hs : sz = a.sz) (h : Opens P e a ga) (hr : OpensA P e sz (i + 1) n b gb) : OpensA P e sz i (n + 1) (Kd.pair a b) (fun x => ga x.1 ∧ gb x.2) := by
  intro H enc w m cs xs hx hl hc hw
  have h0 := hx i (Nat.le_refl _) (by omega)
  rw [List.getElem?_eq_getElem (by omega)] at h0
  obtain ⟨y0, k0, g0⟩ := h enc w m _ _ h0 (hw _ (List.getElem_mem _))
  obtain ⟨y1, k1, g1⟩ := hr enc w m cs xs (fun j h1 h2 => hx j (by omega) (by omega)) (by omega) (by rw [hc, Nat.succ_mul]; show i * sz + (a.sz + b.sz) = _; omega) hw
  refine ⟨(y0, y1), pair_K (by rw [← hs]; exact k0) (by rw [List.drop_drop, ← hs, ← Nat.succ_mul]; exact k1), g0, g1⟩
theorem opens_array {α : Type} {P : Program} {t e : TypeId} {n : Nat} {d : Kd α} {good : α → Prop} (ht : P.underlying t = some (.array n e)) (hl : P.cellsOf t = d.sz) {sz : Nat} (hs : P.cellsOf e = sz) (h : OpensA P e sz 0 n d good) : Opens P t d good := by
  intro H enc w fuel cs x hx hw
  obtain ⟨xs, m, _, rfl, hcl, hxl, hx⟩ := DataW.trod_array ht hx
  rw [hs] at hx
  have := h enc w m cs xs (fun j _ hj => hx j (by omega)) (by omega) (by omega) (fun x hxm k hk => hw k (by
    simp only [DataW.weights, ht]
    exact mem_weightsAll (List.mem_map.2 ⟨x, hxm, rfl⟩) hk))
  simpa using this

/-- An argument that is a slice: its value, what it reads as. -/
theorem Opens.slice_arg {α : Type} {P : Program} {t e : TypeId} {d : Kd α} {g : List α → Prop} (h : Opens P t (Kd.slice e d) g) {H : Type} {enc : TypeId × Value → H} {w : World} {v : Value} {x : DataW H} {ps : List MemPlace}
    (hv : ∃ a len cap, v = .slice a len cap) (hw : Light P t x) (ht : DataW.Trod enc P w 0 (fun _ => true) true t v x ps) :
    ∃ A c l, v = .slice A l.length c ∧ Kd.C d w A l.length l ∧ l.length ≤ c ∧ g l := by
  obtain ⟨fuel, hf⟩ := ht
  obtain ⟨l, ⟨A, c, hcs, hlc, hC⟩, hg⟩ := h enc w fuel _ _ hf hw
  obtain ⟨a, len, cap, rfl⟩ := hv
  simp [Value.cells] at hcs
  obtain ⟨rfl, rfl, rfl⟩ := hcs
  exact ⟨_, _, l, rfl, hC, hlc, hg⟩
/-- An argument that is a struct or an array: its cells. -/
theorem Opens.agg_arg {α : Type} {P : Program} {t : TypeId} {d : Kd α} {g : α → Prop} (h : Opens P t d g) {H : Type} {enc : TypeId × Value → H} {w : World} {v : Value} {x : DataW H} {ps : List MemPlace}
    (hv : ∃ cs, v = .agg cs ∧ cs.size = P.cellsOf t) (hw : Light P t x) (ht : DataW.Trod enc P w 0 (fun _ => true) true t v x ps) :
    ∃ cs y, v = .agg cs ∧ d.K w y cs.toList ∧ g y := by
  obtain ⟨fuel, hf⟩ := ht
  obtain ⟨l, hK, hg⟩ := h enc w fuel _ _ hf hw
  obtain ⟨cs, rfl, _⟩ := hv
  exact ⟨cs, l, rfl, hK, hg⟩

theorem wide_array {P : Program} {w : World} {r : Reach} {base : Nat} {t e : TypeId} {n : Nat} {v : Value} (ht : P.underlying t = some (.array n e)) (h : Value.okWide P w r base t v) : ∃ cs, v = .agg cs ∧ cs.size = P.cellsOf t := by
  simp only [Value.okWide, ht] at h
  obtain ⟨cs, h1, h2, _⟩ := h
  exact ⟨cs, h1, h2⟩

/-- A row's datum is light. -/
theorem light_of {H : Type} {P : Program} {ts : List TypeId} {ds : List (DataW H)} (hsz : (DataW.weightsEach P ts ds).all (· ≤ reachBytes) = true) {j : Nat} {t : TypeId} {d : DataW H} (ht : ts[j]? = some t) (hd : ds[j]? = some d) : Light P t d := by
  intro n hn
  have := List.all_eq_true.1 hsz _ (DataW.weights_mem_each ht hd n hn)
  exact of_decide_eq_true this
end Go.Proofs.Ytnlekganlliikaa.X
