/- For every input the function sennit/sennitlaw03.LcsEnds returns true, and what its arguments read as stays as it was. No condition beyond the given statement's own. (Written by this session's rowgen.py out of the walk law_LcsEnds.) -/
import Derived.Test.YtkakcefekabmhaaRows
import Derived.Test.YtkakcefekabmhaaXOpen
import Derived.Test.YtkakcefekabmhaaXLcsE
import Derived.WalkKit
import Derived.ProofKit
import Derived.OpenShut
import Derived.ShutString
import Derived.ChangeOld
import Derived.Below
import Derived.SizedLaws
import Derived.Carry
namespace Go.Proofs.Ytkakcefekabmhaa.lcsEnds
open Go.ChangeShapes Go.WideShapes Go.ChangeAt Go.RowKit Go.Proofs.YtkakcefekabmhaaW.PrintWords Go.Proofs.Ytkakcefekabmhaa.X
open Go.ChangeMaps (open_string shut_string)
set_option linter.unusedVariables false
theorem own : ownKnob Try.prog.godebug = none := by kernel_rfl
theorem laidOut : laidOutB Try.prog = true := by kernel_rfl
theorem opens0 : Opens Try.prog 22 (Kd.slice 3 (Kd.int .i64)) (fun x => x.length * 8 ≤ 140737488351232 ∧ ∀ y ∈ x, (Lit.int .i64 y).wf = true) := (opens_slice (e := 3) (B := 8) Try.underlying22 (by kernel_rfl) (by kernel_rfl) (opens_int Try.underlying3))
theorem opens1 : Opens Try.prog 22 (Kd.slice 3 (Kd.int .i64)) (fun x => x.length * 8 ≤ 140737488351232 ∧ ∀ y ∈ x, (Lit.int .i64 y).wf = true) := (opens_slice (e := 3) (B := 8) Try.underlying22 (by kernel_rfl) (by kernel_rfl) (opens_int Try.underlying3))
theorem opens2 : Opens Try.prog 37 (Kd.pair (Kd.slice 3 (Kd.int .i64)) (Kd.slice 3 (Kd.int .i64))) (fun x => (x.1.length * 8 ≤ 140737488351232 ∧ ∀ y ∈ x.1, (Lit.int .i64 y).wf = true) ∧ (x.2.length * 8 ≤ 140737488351232 ∧ ∀ y ∈ x.2, (Lit.int .i64 y).wf = true)) := (opens_array Try.underlying37 (by kernel_rfl) (sz := 1) (by kernel_rfl) (opensA_cons (by kernel_rfl) (opens_slice (e := 3) (B := 8) Try.underlying22 (by kernel_rfl) (by kernel_rfl) (opens_int Try.underlying3)) (opensA_one (by kernel_rfl) (opens_slice (e := 3) (B := 8) Try.underlying22 (by kernel_rfl) (by kernel_rfl) (opens_int Try.underlying3)))))
set_option maxRecDepth 100000 in
theorem lifted (os : Os) (started : os.Started) (H : Type) (enc : TypeId × Value → H) :
    ReturnsInHanded {} Try.checked os 7 .any (Rows.lcsEndsSpec.pre6 enc Try.prog Try.f7 Rows.lcsEndsRow.domain false) (Rows.lcsEndsSpec.post enc Try.prog Try.f7 false true false false) := by
  refine returnsInHanded_of_change_sized (C := Try.checked) own started (by kernel_rfl) Try.func7
    (ChangeSpec.witness6 (enc := enc) (C := Try.checked) false ⟨#[], #[.slice none 0 0, .slice none 0 0, .agg #[.slice none 0 0, .slice none 0 0]], []⟩ 8 (by kernel_rfl) (by kernel_rfl) (by kernel_rfl) (by kernel_rfl)) ?_
  intro W base args ds gs before hval0 hW hcnd hsz0 _
  have hsz : (DataW.weightsEach Try.prog (Try.f7.params.toList ++ Rows.lcsEndsSpec.plain.varTypes Try.prog) (ds ++ gs)).all (· ≤ reachBytes) = true := hsz0
  have hval : ∀ (j : Nat) t v, Try.f7.params[j]? = some t → args[j]? = some v → Value.okWide Try.prog W .any base t v := hval0
  have hW' := hW
  obtain ⟨p, q, hA0, hV, rfl, hfz, hnd⟩ := hW
  have hA : DataW.TrodAll enc Try.prog W 0 (fun _ => true) true Try.f7.params.toList args.toList ds p := hA0
  rw [Try.params7] at hA hval hsz
  obtain ⟨v0, vs0, d0, ds0, p0, q0, hargs, rfl, rfl, h0, r0⟩ := trodAll_cons hA
  obtain ⟨v1, vs1, d1, ds1, p1, q1, rfl, rfl, rfl, h1, r1⟩ := trodAll_cons r0
  obtain ⟨v2, vs2, d2, ds2, p2, q2, rfl, rfl, rfl, h2, r2⟩ := trodAll_cons r1
  obtain ⟨rfl, rfl, rfl⟩ := trodAll_nil r2
  obtain rfl : args = #[v0, v1, v2] := by cases args; simp_all
  obtain ⟨rfl, rfl⟩ := trodVars_none hV
  have lt0 : ∀ x ∈ p0, x.block < W.heap.size := by obtain ⟨m, hm⟩ := h0; exact DataW.trod_lt m _ _ _ hm
  have k0 := h0
  have wt0 : Light Try.prog 22 d0 := light_of hsz (j := 0) rfl rfl
  obtain ⟨A0, c0, l0, rfl, hr0, hc0, g0⟩ := opens0.slice_arg (okWide_slice Try.underlying22 (hval 0 22 v0 rfl rfl)) wt0 h0
  have lt1 : ∀ x ∈ p1, x.block < W.heap.size := by obtain ⟨m, hm⟩ := h1; exact DataW.trod_lt m _ _ _ hm
  have k1 := h1
  have wt1 : Light Try.prog 22 d1 := light_of hsz (j := 1) rfl rfl
  obtain ⟨A1, c1, l1, rfl, hr1, hc1, g1⟩ := opens1.slice_arg (okWide_slice Try.underlying22 (hval 1 22 v1 rfl rfl)) wt1 h1
  have lt2 : ∀ x ∈ p2, x.block < W.heap.size := by obtain ⟨m, hm⟩ := h2; exact DataW.trod_lt m _ _ _ hm
  have k2 := h2
  have wt2 : Light Try.prog 37 d2 := light_of hsz (j := 2) rfl rfl
  obtain ⟨cs2, y2, rfl, hk2, g2⟩ := opens2.agg_arg (wide_array Try.underlying37 (hval 2 37 v2 rfl rfl)) wt2 h2
  clear hA0 hval0 hsz0 hsz
  refine (law_LcsEnds W _ _ _ hr0 hc0 g0 _ _ _ hr1 hc1 g1 _ _ hk2 g2).mono fun e W' ⟨he, bel⟩ => ?_
  subst he
  exact ⟨_, rfl, _, _, _, [], _, [], hW', trodAll_mk1 (shut_bool Try.underlying4 _), (trodAll_cons_mk (Below.trod laidOut (by kernel_rfl) (of_decide_eq_true (by kernel_rfl)) k0 bel lt0) (trodAll_cons_mk (Below.trod laidOut (by kernel_rfl) (of_decide_eq_true (by kernel_rfl)) k1 bel lt1) (trodAll_cons_mk (Below.trod laidOut (by kernel_rfl) (of_decide_eq_true (by kernel_rfl)) k2 bel lt2) trodAll_mk0))), rfl, bel.frame _, fun h => by cases h⟩
theorem over : Rows.lcsEndsRow.holds Try.pinned (OpenSpec.ofChange Rows.lcsEndsSpec) :=
  OpenClaim.holds_of_wide 7 Try.f7 rfl rfl rfl rfl rfl rfl rfl ⟨rfl, rfl, rfl, rfl, rfl⟩ rfl rfl rfl rfl rfl (by kernel_rfl) Try.func7 (by kernel_rfl)
    (of_decide_eq_true (by kernel_rfl)) (by unfold Func.isWrapper; first | (rw [if_pos (by decide +kernel)]; kernel_rfl) | (rw [if_neg (by decide +kernel)]; exact ⟨rfl, rfl⟩))
    (fun os started H enc _ => lifted os started H enc)
theorem proved : Rows.LcsEndsSaid := over
#print axioms proved
end Go.Proofs.Ytkakcefekabmhaa.lcsEnds
namespace Go.Proofs.Ytkakcefekabmhaa
/-- The row, under a short name, for the claim. -/
theorem lcsEnds_holds : Rows.LcsEndsSaid := lcsEnds.proved
end Go.Proofs.Ytkakcefekabmhaa
