/- For every input the function sennit/sennitlaw08.MergeClean returns true, and what its arguments read as stays as it was. No condition beyond the given statement's own. (Written by this session's rowgen.py out of the walk law_MergeClean.) -/
import Derived.Test.YtbbhdbeaikclcaaGreatRows
import Derived.Test.YtbbhdbeaikclcaaGreatBMergeClean9
import Derived.WalkKit
import Derived.ProofKit
import Derived.OpenShut
import Derived.ShutString
import Derived.ChangeOld
import Derived.Below
import Derived.SizedLaws
import Derived.Carry
namespace Go.Proofs.YtbbhdbeaikclcaaGreat.mergeClean
open Go.ChangeShapes Go.WideShapes Go.ChangeAt Go.RowKit Go.Proofs.YtbbhdbeaikclcaaGreatW.PrintWords Go.Proofs.YtbbhdbeaikclcaaGreat.X
open Go.ChangeMaps (open_string shut_string)
set_option linter.unusedVariables false
theorem own : ownKnob Tryz.prog.godebug = none := by kernel_rfl
theorem laidOut : laidOutB Tryz.prog = true := by kernel_rfl
theorem opens0 : Opens Tryz.prog 22 (Kd.slice 9 Kd.string) (fun x => x.length * 16 ≤ 140737488351232 ∧ ∀ y ∈ x, y.size ≤ 140737488351232) := (opens_slice (e := 9) (B := 16) Tryz.underlying22 (by kernel_rfl) (by kernel_rfl) (opens_string Tryz.underlying9))
theorem opens1 : Opens Tryz.prog 23 (Kd.slice 22 (Kd.slice 9 Kd.string)) (fun x => x.length * 24 ≤ 140737488351232 ∧ ∀ y ∈ x, y.length * 16 ≤ 140737488351232 ∧ ∀ yy ∈ y, yy.size ≤ 140737488351232) := (opens_slice (e := 22) (B := 24) Tryz.underlying23 (by kernel_rfl) (by kernel_rfl) (opens_slice (e := 9) (B := 16) Tryz.underlying22 (by kernel_rfl) (by kernel_rfl) (opens_string Tryz.underlying9)))
set_option maxRecDepth 100000 in
theorem lifted (os : Os) (started : os.Started) (H : Type) (enc : TypeId × Value → H) :
    ReturnsInHanded {} Tryz.checked os 5 .any (Rows.mergeCleanSpec.pre6 enc Tryz.prog Tryz.f5 Rows.mergeCleanRow.domain false) (Rows.mergeCleanSpec.post enc Tryz.prog Tryz.f5 false true false false) := by
  refine returnsInHanded_of_change_sized (C := Tryz.checked) own started (by kernel_rfl) Tryz.func5
    (ChangeSpec.witness6 (enc := enc) (C := Tryz.checked) false ⟨#[], #[.slice none 0 0, .slice none 0 0, .int .u8 0], []⟩ 8 (by kernel_rfl) (by kernel_rfl) (by kernel_rfl) (by kernel_rfl)) ?_
  intro W base args ds gs before hval0 hW hcnd hsz0 _
  have hsz : (DataW.weightsEach Tryz.prog (Tryz.f5.params.toList ++ Rows.mergeCleanSpec.plain.varTypes Tryz.prog) (ds ++ gs)).all (· ≤ reachBytes) = true := hsz0
  have hval : ∀ (j : Nat) t v, Tryz.f5.params[j]? = some t → args[j]? = some v → Value.okWide Tryz.prog W .any base t v := hval0
  have hW' := hW
  obtain ⟨p, q, hA0, hV, rfl, hfz, hnd⟩ := hW
  have hA : DataW.TrodAll enc Tryz.prog W 0 (fun _ => true) true Tryz.f5.params.toList args.toList ds p := hA0
  rw [Tryz.params5] at hA hval hsz
  obtain ⟨v0, vs0, d0, ds0, p0, q0, hargs, rfl, rfl, h0, r0⟩ := trodAll_cons hA
  obtain ⟨v1, vs1, d1, ds1, p1, q1, rfl, rfl, rfl, h1, r1⟩ := trodAll_cons r0
  obtain ⟨v2, vs2, d2, ds2, p2, q2, rfl, rfl, rfl, h2, r2⟩ := trodAll_cons r1
  obtain ⟨rfl, rfl, rfl⟩ := trodAll_nil r2
  obtain rfl : args = #[v0, v1, v2] := by cases args; simp_all
  obtain ⟨rfl, rfl⟩ := trodVars_none hV
  have lt0 : ∀ x ∈ p0, x.block < W.heap.size := by obtain ⟨m, hm⟩ := h0; exact DataW.trod_lt m _ _ _ hm
  have k0 := h0
  have wt0 : Light Tryz.prog 22 d0 := light_of hsz (j := 0) rfl rfl
  obtain ⟨A0, c0, l0, rfl, hr0, hc0, g0⟩ := opens0.slice_arg (okWide_slice Tryz.underlying22 (hval 0 22 v0 rfl rfl)) wt0 h0
  have lt1 : ∀ x ∈ p1, x.block < W.heap.size := by obtain ⟨m, hm⟩ := h1; exact DataW.trod_lt m _ _ _ hm
  have k1 := h1
  have wt1 : Light Tryz.prog 23 d1 := light_of hsz (j := 1) rfl rfl
  obtain ⟨A1, c1, l1, rfl, hr1, hc1, g1⟩ := opens1.slice_arg (okWide_slice Tryz.underlying23 (hval 1 23 v1 rfl rfl)) wt1 h1
  have lt2 : ∀ x ∈ p2, x.block < W.heap.size := by obtain ⟨m, hm⟩ := h2; exact DataW.trod_lt m _ _ _ hm
  have k2 := h2
  have wt2 : Light Tryz.prog 5 d2 := light_of hsz (j := 2) rfl rfl
  obtain ⟨a2, rfl, rfl, rfl, g2⟩ := open_int Tryz.underlying5 (hval 2 5 v2 rfl rfl) h2
  clear hA0 hval0 hsz0 hsz
  refine (law_MergeClean W _ _ _ hr0 hc0 g0 _ _ _ hr1 hc1 g1 _ g2).mono fun e W' ⟨he, bel⟩ => ?_
  subst he
  exact ⟨_, rfl, _, _, _, [], _, [], hW', trodAll_mk1 (shut_bool Tryz.underlying4 _), (trodAll_cons_mk (Below.trod laidOut (by kernel_rfl) (of_decide_eq_true (by kernel_rfl)) k0 bel lt0) (trodAll_cons_mk (Below.trod laidOut (by kernel_rfl) (of_decide_eq_true (by kernel_rfl)) k1 bel lt1) (trodAll_cons_mk (Below.trod laidOut (by kernel_rfl) (of_decide_eq_true (by kernel_rfl)) k2 bel lt2) trodAll_mk0))), rfl, bel.frame _, fun h => by cases h⟩
theorem over : Rows.mergeCleanRow.holds Tryz.pinned (OpenSpec.ofChange Rows.mergeCleanSpec) :=
  OpenClaim.holds_of_wide 5 Tryz.f5 rfl rfl rfl rfl rfl rfl rfl ⟨rfl, rfl, rfl, rfl, rfl⟩ rfl rfl rfl rfl rfl (by kernel_rfl) Tryz.func5 (by kernel_rfl)
    (of_decide_eq_true (by kernel_rfl)) (by unfold Func.isWrapper; first | (rw [if_pos (by decide +kernel)]; kernel_rfl) | (rw [if_neg (by decide +kernel)]; exact ⟨rfl, rfl⟩))
    (fun os started H enc _ => lifted os started H enc)
theorem proved : Rows.MergeCleanSaid := over
#print axioms proved
end Go.Proofs.YtbbhdbeaikclcaaGreat.mergeClean
namespace Go.Proofs.YtbbhdbeaikclcaaGreat
/-- The row, under a short name, for the claim. -/
theorem mergeClean_holds : Rows.MergeCleanSaid := mergeClean.proved
end Go.Proofs.YtbbhdbeaikclcaaGreat
