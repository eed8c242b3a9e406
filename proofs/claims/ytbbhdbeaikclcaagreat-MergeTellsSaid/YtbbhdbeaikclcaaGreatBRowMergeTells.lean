/- For every input the function sennit/sennitlaw08.MergeTells returns true, and what its arguments read as stays as it was. No condition beyond the given statement's own. (Written by this session's rowgen.py out of the walk law_MergeTells.) -/
import Derived.Test.YtbbhdbeaikclcaaGreatRows
import Derived.Test.YtbbhdbeaikclcaaGreatBMergeTells9
import Derived.WalkKit
import Derived.ProofKit
import Derived.OpenShut
import Derived.ShutString
import Derived.ChangeOld
import Derived.Below
import Derived.SizedLaws
import Derived.Carry
namespace Go.Proofs.YtbbhdbeaikclcaaGreat.mergeTells
open Go.ChangeShapes Go.WideShapes Go.ChangeAt Go.RowKit Go.Proofs.YtbbhdbeaikclcaaGreatW.PrintWords Go.Proofs.YtbbhdbeaikclcaaGreat.X
open Go.ChangeMaps (open_string shut_string)
set_option linter.unusedVariables false
theorem own : ownKnob Tryz.prog.godebug = none := by kernel_rfl
theorem laidOut : laidOutB Tryz.prog = true := by kernel_rfl
theorem opens0 : Opens Tryz.prog 22 (Kd.slice 9 Kd.string) (fun x => x.length * 16 ≤ 140737488351232 ∧ ∀ y ∈ x, y.size ≤ 140737488351232) := (opens_slice (e := 9) (B := 16) Tryz.underlying22 (by kernel_rfl) (by kernel_rfl) (opens_string Tryz.underlying9))
theorem opens1 : Opens Tryz.prog 23 (Kd.slice 22 (Kd.slice 9 Kd.string)) (fun x => x.length * 24 ≤ 140737488351232 ∧ ∀ y ∈ x, y.length * 16 ≤ 140737488351232 ∧ ∀ yy ∈ y, yy.size ≤ 140737488351232) := (opens_slice (e := 22) (B := 24) Tryz.underlying23 (by kernel_rfl) (by kernel_rfl) (opens_slice (e := 9) (B := 16) Tryz.underlying22 (by kernel_rfl) (by kernel_rfl) (opens_string Tryz.underlying9)))
theorem opens2 : Opens Tryz.prog 34 k34 (fun x => ((Lit.int .i64 ((fun x : S34 => (x.f0, x.f1)) x).1).wf = true) ∧ (True)) := (opens_iso (fun x : S34 => (x.f0, x.f1)) (fun y => ⟨⟨y.1, y.2⟩, rfl⟩) (opens_struct Tryz.underlying34 (by kernel_rfl) (opensF_cons rfl (by kernel_rfl) (opens_int Tryz.underlying3) (opensF_one rfl (by kernel_rfl) (opens_bool Tryz.underlying4)))))
set_option maxRecDepth 100000 in
theorem lifted (os : Os) (started : os.Started) (H : Type) (enc : TypeId × Value → H) :
    ReturnsInHanded {} Tryz.checked os 4 .any (Rows.mergeTellsSpec.pre6 enc Tryz.prog Tryz.f4 Rows.mergeTellsRow.domain false) (Rows.mergeTellsSpec.post enc Tryz.prog Tryz.f4 false true false false) := by
  refine returnsInHanded_of_change_sized (C := Tryz.checked) own started (by kernel_rfl) Tryz.func4
    (ChangeSpec.witness6 (enc := enc) (C := Tryz.checked) false ⟨#[], #[.slice none 0 0, .slice none 0 0, .agg #[.int .i64 0, .bool false]], []⟩ 8 (by kernel_rfl) (by kernel_rfl) (by kernel_rfl) (by kernel_rfl)) ?_
  intro W base args ds gs before hval0 hW hcnd hsz0 _
  have hsz : (DataW.weightsEach Tryz.prog (Tryz.f4.params.toList ++ Rows.mergeTellsSpec.plain.varTypes Tryz.prog) (ds ++ gs)).all (· ≤ reachBytes) = true := hsz0
  have hval : ∀ (j : Nat) t v, Tryz.f4.params[j]? = some t → args[j]? = some v → Value.okWide Tryz.prog W .any base t v := hval0
  have hW' := hW
  obtain ⟨p, q, hA0, hV, rfl, hfz, hnd⟩ := hW
  have hA : DataW.TrodAll enc Tryz.prog W 0 (fun _ => true) true Tryz.f4.params.toList args.toList ds p := hA0
  rw [Tryz.params4] at hA hval hsz
  obtain ⟨v0, vs0, d0, ds0, p0, q0, hargs, rfl, rfl, h0, r0⟩ := trodAll_cons hA
  obtain ⟨v1, vs1, d1, ds1, p1, q1, rfl, rfl, rfl, h1, r1⟩ := trodAll_cons r0
  obtain ⟨v2, vs2, d2, ds2, p2, q2, rfl, rfl, rfl, h2, r2⟩ := trodAll_cons r1
  obtain ⟨rfl, rfl, rfl⟩ := trodAll_nil r2
  obtain rfl : args = #[v0, v1, v2] := by cases args; simp_all
  obtain ⟨rfl, rfl⟩ := trodVars_none hV
  have lt0 : ∀ x ∈ p0, x.block < W.heap.size := by obtain ⟨m, hm⟩ := h0; exact DataW.trod_lt m _ _ _ hm
  have k0 := h0
  have wt0 : Light Tryz.prog 22 d0 := light_of hsz (j := 0) rfl rfl
  obtain ⟨A0, c0, l0, rfl, hr0, hc0, g0⟩ := opens0.slice_arg (okWide_slice Tryz.underlying22 (hval 0 22 v0 rfl rfl)) wt0 h0
  have lt1 : ∀ x ∈ p1, x.block < W.heap.size := by obtain ⟨m, hm⟩ := h1; exact DataW.trod_lt m _ _ _ hm
  have k1 := h1
  have wt1 : Light Tryz.prog 23 d1 := light_of hsz (j := 1) rfl rfl
  obtain ⟨A1, c1, l1, rfl, hr1, hc1, g1⟩ := opens1.slice_arg (okWide_slice Tryz.underlying23 (hval 1 23 v1 rfl rfl)) wt1 h1
  have lt2 : ∀ x ∈ p2, x.block < W.heap.size := by obtain ⟨m, hm⟩ := h2; exact DataW.trod_lt m _ _ _ hm
  have k2 := h2
  have wt2 : Light Tryz.prog 34 d2 := light_of hsz (j := 2) rfl rfl
  obtain ⟨cs2, y2, rfl, hk2, g2⟩ := opens2.agg_arg (okWide_struct Tryz.underlying34 (hval 2 34 v2 rfl rfl)) wt2 h2
  clear hA0 hval0 hsz0 hsz
  refine (law_MergeTells W _ _ _ hr0 hc0 g0 _ _ _ hr1 hc1 g1 _ _ hk2 g2).mono fun e W' ⟨he, bel⟩ => ?_
  subst he
  exact ⟨_, rfl, _, _, _, [], _, [], hW', trodAll_mk1 (shut_bool Tryz.underlying4 _), (trodAll_cons_mk (Below.trod laidOut (by kernel_rfl) (of_decide_eq_true (by kernel_rfl)) k0 bel lt0) (trodAll_cons_mk (Below.trod laidOut (by kernel_rfl) (of_decide_eq_true (by kernel_rfl)) k1 bel lt1) (trodAll_cons_mk (Below.trod laidOut (by kernel_rfl) (of_decide_eq_true (by kernel_rfl)) k2 bel lt2) trodAll_mk0))), rfl, bel.frame _, fun h => by cases h⟩
theorem over : Rows.mergeTellsRow.holds Tryz.pinned (OpenSpec.ofChange Rows.mergeTellsSpec) :=
  OpenClaim.holds_of_wide 4 Tryz.f4 rfl rfl rfl rfl rfl rfl rfl ⟨rfl, rfl, rfl, rfl, rfl⟩ rfl rfl rfl rfl rfl (by kernel_rfl) Tryz.func4 (by kernel_rfl)
    (of_decide_eq_true (by kernel_rfl)) (by unfold Func.isWrapper; first | (rw [if_pos (by decide +kernel)]; kernel_rfl) | (rw [if_neg (by decide +kernel)]; exact ⟨rfl, rfl⟩))
    (fun os started H enc _ => lifted os started H enc)
theorem proved : Rows.MergeTellsSaid := over
#print axioms proved
end Go.Proofs.YtbbhdbeaikclcaaGreat.mergeTells
namespace Go.Proofs.YtbbhdbeaikclcaaGreat
/-- The row, under a short name, for the claim. -/
theorem mergeTells_holds : Rows.MergeTellsSaid := mergeTells.proved
end Go.Proofs.YtbbhdbeaikclcaaGreat
