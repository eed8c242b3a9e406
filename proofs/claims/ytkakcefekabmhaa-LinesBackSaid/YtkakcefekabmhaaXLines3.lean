/-
  lines.Split: by hand.
-/
import Derived.Test.YtkakcefekabmhaaXLines2
namespace Go.Proofs.Ytkakcefekabmhaa.X
open Go.RowKit Go.Shelf Go.Proofs.YtkakcefekabmhaaW.PrintWords Go.Proofs.YtkakcefekabmhaaW.PrintLast Go.Proofs.YtkakcefekabmhaaW.PrintMore
set_option linter.unusedVariables false
set_option linter.unusedSimpArgs false
attribute [local go_sem] Oper.semAt_some

def lines_Split.f (b : List Int) : Option (List ByteArray) := if b.length ≤ 1000000000 then some (linesT b) else none

theorem R_texts {W : World} {base e : Nat} {v : Value} {t : List ByteArray} (h : W.ownsRow base e 1 v t.length (t.map Value.string)) : Kd.R Kd.string e W base (fun _ => True) v t := by
  refine ⟨fun _ _ => trivial, t.map Value.string, h, by simp [Kd.string, Kd.scalar], fun j p hj => ?_⟩
  obtain ⟨hl, rfl⟩ := List.getElem?_eq_some_iff.1 hj
  show ((t.map Value.string).drop (j * 1)).take 1 = [Value.string t[j]]
  rw [Nat.mul_one, List.drop_eq_getElem_cons (by simpa using hl)]
  simp

set_option maxRecDepth 100000 in
set_option maxHeartbeats 4000000 in
theorem lines_Split.calls (A0 : Option Addr) (c0 : Nat) (l0 : List Int) (r : List ByteArray) (w : World) (hr0 : Kd.C (Kd.int .u8) w A0 l0.length l0) (hc0 : l0.length ≤ c0) (h : lines_Split.f l0 = some r) :
    Calls Try.prog 26 #[.slice A0 l0.length c0] w fun e w' => ∃ v0_ : Value, e = .returned v0_ ∧ Kd.R Kd.string 9 w' w.heap.size (fun _ => True) v0_ r ∧ Below w.heap.size w w' := by
  have hbl : l0.length ≤ 1000000000 := by
    unfold lines_Split.f at h
    split at h
    · assumption
    · cases h
  obtain rfl : linesT l0 = r := by
    unfold lines_Split.f at h
    rw [if_pos hbl] at h
    exact Option.some.inj h
  have HR0 := Aside0.mk hr0
  have HC0 := Aside0.mk hc0
  clear h hr0 hc0
  refine (callsIn_wide (n := 3)).1 ?_
  refine callsIn_of_wp_marks Try.func26 rfl trivial ?_ rfl
  simp only [Try.ntmps26, List.size_toArray, List.length_cons, List.length_nil, Nat.reduceAdd, Nat.reduceSub, Array.replicate_succ, Array.replicate_zero, List.push_toArray, List.append_toArray, List.nil_append, List.cons_append]
  obtain ⟨i0, hi0, hz0⟩ := Option.map_eq_some_iff.1 info9
  simp only [Prod.mk.injEq] at hz0
  obtain ⟨hz, hsz, hby⟩ := hz0
  have HI0 := Aside0.mk hi0
  have HZ := Aside0.mk hz
  have HSZ := Aside0.mk hsz
  have HBY := Aside0.mk hby
  clear hi0 hz hsz hby
  gi_wp2_with (refine ⟨trivial, ?_⟩; refine (lines_cuts _ A0 l0.length c0 _).mono ?_; rintro e w' ⟨rfl, rfl⟩)
  have h0 : SplitI w (w.heap.size + 1) w.heap.size ([], l0) ((w.alloc (.cells #[.slice none 0 0] 42)).alloc (.cells #[.slice A0 l0.length c0] 41)) := by
    have bO := Boxed.new w 42 (.slice none 0 0)
    have bN := Boxed.new (w.alloc (.cells #[.slice none 0 0] 42)) 41 (.slice A0 l0.length c0)
    rw [World.size_alloc] at bN
    exact ⟨((Below.refl _ w).alloc (Nat.le_refl _) _).alloc (by simp) _, ⟨A0, c0, bN, HC0.out, HR0.out⟩, _, bO.alloc _, World.ownsRow_nil _ _ _ _⟩
  refine wpIn_range_cells rfl (by omega) (gf := 50) (lb := #[.pointer (some ⟨w.heap.size + 1, 0, none⟩)]) rfl trivial (enters_of Try.func50 (by kernel_rfl) rfl) (fun _ => rfl)
    (cuts_goes _ w (w.heap.size + 1) w.heap.size (by omega) (by omega) l0 hbl) (fun s W r o o' hI hr hl ho => hI.put o' (by simp at hr; omega) hl ho) (fun s W o hI => hI.alloc o) h0
    (fun x => { tmps := #[.slice A0 l0.length c0, undef, .slice none 0 0, .pointer (some ⟨w.heap.size, 0, none⟩), cutVal x, .slice A0 l0.length c0, .func (.func 50) #[] #[.pointer (some ⟨w.heap.size + 1, 0, none⟩)], cutVal x, undef, undef, undef, undef, undef, undef], defers := [] }) ?assign ?body ?done
  case assign =>
    intro l x W K hK
    gi_wp2
    exact hK
  case body =>
    rintro l ⟨t, r⟩ ⟨⟨A, c⟩, xs⟩ W hI ⟨hC, hlt⟩
    obtain ⟨hb, ⟨A', c', hx, hrc, hC'⟩, v, hv, hrow⟩ := hI
    dsimp only at hx hrc hC' hrow hC hlt
    have hc := hv.cell
    have hcv : (convert 41 9 (cutVal ((A, c), xs))).run Try.prog W = .ok (.string (strOfNums xs)) W := Kd.C_string Try.underlying41 Try.underlying5 Try.underlying9 (Kd.C_below hC hb)
    have HX := Aside0.mk hx
    have HC' := Aside0.mk hC'
    have HB := Aside0.mk hb
    clear hx hb hC hC'
    gi_wp2_with (gi_at_builtin; refine wpListIn_append_own _ rfl _ _ 42 rfl w.heap.size 9 i0 (.string ByteArray.empty) 1 16 Try.underlying42 HI0.out HZ.out HSZ.out HBY.out rfl (by decide) _ _ _ rfl (hrow.alloc _) ⟨W.heap.size, 0, none⟩ 1 1 [.string (strOfNums xs)] rfl rfl (cell_one_new _ _ _) (by simp [Value.oneCell']) (by simp only [maxLen]; omega) (by omega) (by have := HB.out.size; simp; omega) ?_; intro v' w1 hown' hgrow _; obtain ⟨g', cap', rfl⟩ := ownsRow_succ hown'; obtain ⟨hv1, hv2, hr2, hk2, hb2⟩ := hv.appended (by decide) hrow HB.out.size (Nat.le_refl _) hown' hgrow; have hc1 := hv1.cell; have hf1 := hv1.frozen)
    refine ⟨HB.out.trans hb2, ⟨A', c', ((HX.out.alloc (.cells #[.string (strOfNums xs)] 9)).kept hgrow ((HX.out.alloc (.cells #[.string (strOfNums xs)] 9)).not_row (by decide) (hrow.alloc (.cells #[.string (strOfNums xs)] 9)))).kept (grownBy_setCell' w1 w.heap.size _) (by simp), hrc, ?_⟩, _, hv2, ?_⟩
    · exact HC'.out
    · simpa [splitStep] using hr2
  case done =>
    rintro ⟨t, r⟩ W ⟨rfl, rfl⟩ ⟨hb, _, v, hv, hrow⟩ hK
    have hc := hv.cell
    simp only [World.size_alloc] at hK
    gi_wp2
    refine ⟨by simp, .inl ⟨_, _, rfl, run_takeDeferred hK, ?_⟩⟩
    refine ⟨_, results_tmp rfl _ _ _, v, rfl, R_texts (ownsRow_putObj hrow _ hK rfl), hb.trans (belowK_b (w := w) (Nat.le_refl _) W _ _ _ (by omega) hK rfl rfl)⟩
end Go.Proofs.Ytkakcefekabmhaa.X
