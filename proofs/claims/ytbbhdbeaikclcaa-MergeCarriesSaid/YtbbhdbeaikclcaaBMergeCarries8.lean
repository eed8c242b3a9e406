/-
  Parts of one proof, one behind the other: XKn1, XLn1, XMRef, XMFav, XMPick.
-/
import Derived.Test.YtbbhdbeaikclcaaBMergeCarries7
-- part XKn1
namespace Go.Proofs.Ytbbhdbeaikclcaa.X
open Go.RowKit Go.Proofs.YtbbhdbeaikclcaaW.PrintWords Go.Proofs.YtbbhdbeaikclcaaW.PrintLast Go.Proofs.YtbbhdbeaikclcaaW.PrintMore
attribute [local go_sem] max2_int min2_int max_two min_two max_three min_three max_four min_four   -- for this text's walks alone
set_option linter.unusedVariables false
set_option linter.unusedSimpArgs false
def sennitlaw08_awake.f  : Option (Bool) := (some (([(⟨#[97, 10]⟩ : ByteArray), (⟨#[98, 10]⟩ : ByteArray), (⟨#[99, 10]⟩ : ByteArray)] : List ByteArray) : List ByteArray)).bind fun y101 => ((merge_Merge.f y101 (([(([(⟨#[120, 10]⟩ : ByteArray), (⟨#[98, 10]⟩ : ByteArray), (⟨#[99, 10]⟩ : ByteArray)] : List ByteArray)), (([(⟨#[97, 10]⟩ : ByteArray), (⟨#[98, 10]⟩ : ByteArray), (⟨#[121, 10]⟩ : ByteArray)] : List ByteArray))] : List (List ByteArray))) 0 false).bind fun bt113 => ((merge_Merge.f y101 (([(([(⟨#[120, 10]⟩ : ByteArray), (⟨#[98, 10]⟩ : ByteArray), (⟨#[99, 10]⟩ : ByteArray)] : List ByteArray)), (([(⟨#[122, 10]⟩ : ByteArray), (⟨#[98, 10]⟩ : ByteArray), (⟨#[121, 10]⟩ : ByteArray)] : List ByteArray))] : List (List ByteArray))) 0 false).bind fun bt126 => ((merge_Merge.f y101 ([] : List (List ByteArray)) 0 false).bind fun bt130 => (if bt113.2 = 0 then (if bt126.2 = 0 then (if bt130.2 = 1 then (if (bt113.1.length : Int) = 1 then (if 0 < (bt113.1.length : Int) then (if (((rd_T33 bt113.1 0).f1).length : Int) = 3 then (if 2 < (((rd_T33 bt113.1 0).f1).length : Int) then (if (rdOf ByteArray.empty ((rd_T33 bt113.1 0).f1) 2).toList = ([121, 10] : List UInt8) then (if (bt126.1.length : Int) = 2 then (if 0 < (bt126.1.length : Int) then (if (rd_T33 bt126.1 0).f0 = true then (if 1 < (bt126.1.length : Int) then (some ((((rd_T33 bt126.1 1).f1).length : Int) == 2)) else (none)) else (some false)) else (none)) else (some false)) else (some false)) else (none)) else (some false)) else (none)) else (some false)) else (some false)) else (some false)) else (some false)))))
theorem sennitlaw08_awake.true_ : sennitlaw08_awake.f = some true := by decide +kernel
set_option maxHeartbeats 8000000 in
set_option maxRecDepth 100000 in
theorem sennitlaw08_awake.calls  (r : Bool) (w : World) (h : sennitlaw08_awake.f  = some r) :
    Calls Try.prog 4 #[] w fun e w' => e = .returned (.bool r) ∧ Below w.heap.size w w' := by
  have hrt_ : r = true := Option.some.inj (h.symm.trans sennitlaw08_awake.true_)
  have hu31 := Try.underlying31
  have HB := Aside0.mk (Below.refl w.heap.size w)
  have H : ((some (([(⟨#[97, 10]⟩ : ByteArray), (⟨#[98, 10]⟩ : ByteArray), (⟨#[99, 10]⟩ : ByteArray)] : List ByteArray) : List ByteArray)).bind fun y101 => ((merge_Merge.f y101 (([(([(⟨#[120, 10]⟩ : ByteArray), (⟨#[98, 10]⟩ : ByteArray), (⟨#[99, 10]⟩ : ByteArray)] : List ByteArray)), (([(⟨#[97, 10]⟩ : ByteArray), (⟨#[98, 10]⟩ : ByteArray), (⟨#[121, 10]⟩ : ByteArray)] : List ByteArray))] : List (List ByteArray))) 0 false).bind fun bt113 => ((merge_Merge.f y101 (([(([(⟨#[120, 10]⟩ : ByteArray), (⟨#[98, 10]⟩ : ByteArray), (⟨#[99, 10]⟩ : ByteArray)] : List ByteArray)), (([(⟨#[122, 10]⟩ : ByteArray), (⟨#[98, 10]⟩ : ByteArray), (⟨#[121, 10]⟩ : ByteArray)] : List ByteArray))] : List (List ByteArray))) 0 false).bind fun bt126 => ((merge_Merge.f y101 ([] : List (List ByteArray)) 0 false).bind fun bt130 => (if bt113.2 = 0 then (if bt126.2 = 0 then (if bt130.2 = 1 then (if (bt113.1.length : Int) = 1 then (if 0 < (bt113.1.length : Int) then (if (((rd_T33 bt113.1 0).f1).length : Int) = 3 then (if 2 < (((rd_T33 bt113.1 0).f1).length : Int) then (if (rdOf ByteArray.empty ((rd_T33 bt113.1 0).f1) 2).toList = ([121, 10] : List UInt8) then (if (bt126.1.length : Int) = 2 then (if 0 < (bt126.1.length : Int) then (if (rd_T33 bt126.1 0).f0 = true then (if 1 < (bt126.1.length : Int) then (some ((((rd_T33 bt126.1 1).f1).length : Int) == 2)) else (none)) else (some false)) else (none)) else (some false)) else (some false)) else (none)) else (some false)) else (none)) else (some false)) else (some false)) else (some false)) else (some false)))))) = some r := h
  clear h
  obtain ⟨y101, hy101⟩ : ∃ y_ : List ByteArray, y_ = (([(⟨#[97, 10]⟩ : ByteArray), (⟨#[98, 10]⟩ : ByteArray), (⟨#[99, 10]⟩ : ByteArray)] : List ByteArray)) := ⟨_, rfl⟩
  replace H : ((merge_Merge.f y101 (([(([(⟨#[120, 10]⟩ : ByteArray), (⟨#[98, 10]⟩ : ByteArray), (⟨#[99, 10]⟩ : ByteArray)] : List ByteArray)), (([(⟨#[97, 10]⟩ : ByteArray), (⟨#[98, 10]⟩ : ByteArray), (⟨#[121, 10]⟩ : ByteArray)] : List ByteArray))] : List (List ByteArray))) 0 false).bind fun bt113 => ((merge_Merge.f y101 (([(([(⟨#[120, 10]⟩ : ByteArray), (⟨#[98, 10]⟩ : ByteArray), (⟨#[99, 10]⟩ : ByteArray)] : List ByteArray)), (([(⟨#[122, 10]⟩ : ByteArray), (⟨#[98, 10]⟩ : ByteArray), (⟨#[121, 10]⟩ : ByteArray)] : List ByteArray))] : List (List ByteArray))) 0 false).bind fun bt126 => ((merge_Merge.f y101 ([] : List (List ByteArray)) 0 false).bind fun bt130 => (if bt113.2 = 0 then (if bt126.2 = 0 then (if bt130.2 = 1 then (if (bt113.1.length : Int) = 1 then (if 0 < (bt113.1.length : Int) then (if (((rd_T33 bt113.1 0).f1).length : Int) = 3 then (if 2 < (((rd_T33 bt113.1 0).f1).length : Int) then (if (rdOf ByteArray.empty ((rd_T33 bt113.1 0).f1) 2).toList = ([121, 10] : List UInt8) then (if (bt126.1.length : Int) = 2 then (if 0 < (bt126.1.length : Int) then (if (rd_T33 bt126.1 0).f0 = true then (if 1 < (bt126.1.length : Int) then (some ((((rd_T33 bt126.1 1).f1).length : Int) == 2)) else (none)) else (some false)) else (none)) else (some false)) else (some false)) else (none)) else (some false)) else (none)) else (some false)) else (some false)) else (some false)) else (some false))))) = some r := by first | (rw [hy101]; with_reducible exact H) | (have H2_ := (Option.bind_some _ _).symm.trans H; rw [hy101]; with_reducible exact H2_) | (have H2_ := (Option.bind_some _ _).symm.trans H; with_reducible exact H2_) | with_reducible exact H | (rw [hy101]; exact H) | exact H
  have Ny101 := Aside0.mk hy101
  clear hy101
  obtain ⟨y104, hy104⟩ : ∃ y_ : List ByteArray, y_ = (([(⟨#[120, 10]⟩ : ByteArray), (⟨#[98, 10]⟩ : ByteArray), (⟨#[99, 10]⟩ : ByteArray)] : List ByteArray)) := ⟨_, rfl⟩
  replace H : ((merge_Merge.f y101 (([y104, (([(⟨#[97, 10]⟩ : ByteArray), (⟨#[98, 10]⟩ : ByteArray), (⟨#[121, 10]⟩ : ByteArray)] : List ByteArray))] : List (List ByteArray))) 0 false).bind fun bt113 => ((merge_Merge.f y101 (([(([(⟨#[120, 10]⟩ : ByteArray), (⟨#[98, 10]⟩ : ByteArray), (⟨#[99, 10]⟩ : ByteArray)] : List ByteArray)), (([(⟨#[122, 10]⟩ : ByteArray), (⟨#[98, 10]⟩ : ByteArray), (⟨#[121, 10]⟩ : ByteArray)] : List ByteArray))] : List (List ByteArray))) 0 false).bind fun bt126 => ((merge_Merge.f y101 ([] : List (List ByteArray)) 0 false).bind fun bt130 => (if bt113.2 = 0 then (if bt126.2 = 0 then (if bt130.2 = 1 then (if (bt113.1.length : Int) = 1 then (if 0 < (bt113.1.length : Int) then (if (((rd_T33 bt113.1 0).f1).length : Int) = 3 then (if 2 < (((rd_T33 bt113.1 0).f1).length : Int) then (if (rdOf ByteArray.empty ((rd_T33 bt113.1 0).f1) 2).toList = ([121, 10] : List UInt8) then (if (bt126.1.length : Int) = 2 then (if 0 < (bt126.1.length : Int) then (if (rd_T33 bt126.1 0).f0 = true then (if 1 < (bt126.1.length : Int) then (some ((((rd_T33 bt126.1 1).f1).length : Int) == 2)) else (none)) else (some false)) else (none)) else (some false)) else (some false)) else (none)) else (some false)) else (none)) else (some false)) else (some false)) else (some false)) else (some false))))) = some r := by first | (rw [hy104]; with_reducible exact H) | (have H2_ := (Option.bind_some _ _).symm.trans H; rw [hy104]; with_reducible exact H2_) | (have H2_ := (Option.bind_some _ _).symm.trans H; with_reducible exact H2_) | with_reducible exact H | (rw [hy104]; exact H) | exact H
  have Ny104 := Aside0.mk hy104
  clear hy104
  obtain ⟨y107, hy107⟩ : ∃ y_ : List ByteArray, y_ = (([(⟨#[97, 10]⟩ : ByteArray), (⟨#[98, 10]⟩ : ByteArray), (⟨#[121, 10]⟩ : ByteArray)] : List ByteArray)) := ⟨_, rfl⟩
  replace H : ((merge_Merge.f y101 (([y104, y107] : List (List ByteArray))) 0 false).bind fun bt113 => ((merge_Merge.f y101 (([(([(⟨#[120, 10]⟩ : ByteArray), (⟨#[98, 10]⟩ : ByteArray), (⟨#[99, 10]⟩ : ByteArray)] : List ByteArray)), (([(⟨#[122, 10]⟩ : ByteArray), (⟨#[98, 10]⟩ : ByteArray), (⟨#[121, 10]⟩ : ByteArray)] : List ByteArray))] : List (List ByteArray))) 0 false).bind fun bt126 => ((merge_Merge.f y101 ([] : List (List ByteArray)) 0 false).bind fun bt130 => (if bt113.2 = 0 then (if bt126.2 = 0 then (if bt130.2 = 1 then (if (bt113.1.length : Int) = 1 then (if 0 < (bt113.1.length : Int) then (if (((rd_T33 bt113.1 0).f1).length : Int) = 3 then (if 2 < (((rd_T33 bt113.1 0).f1).length : Int) then (if (rdOf ByteArray.empty ((rd_T33 bt113.1 0).f1) 2).toList = ([121, 10] : List UInt8) then (if (bt126.1.length : Int) = 2 then (if 0 < (bt126.1.length : Int) then (if (rd_T33 bt126.1 0).f0 = true then (if 1 < (bt126.1.length : Int) then (some ((((rd_T33 bt126.1 1).f1).length : Int) == 2)) else (none)) else (some false)) else (none)) else (some false)) else (some false)) else (none)) else (some false)) else (none)) else (some false)) else (some false)) else (some false)) else (some false))))) = some r := by first | (rw [hy107]; with_reducible exact H) | (have H2_ := (Option.bind_some _ _).symm.trans H; rw [hy107]; with_reducible exact H2_) | (have H2_ := (Option.bind_some _ _).symm.trans H; with_reducible exact H2_) | with_reducible exact H | (rw [hy107]; exact H) | exact H
  have Ny107 := Aside0.mk hy107
  clear hy107
  obtain ⟨y110, hy110⟩ : ∃ y_ : List (List ByteArray), y_ = (([y104, y107] : List (List ByteArray))) := ⟨_, rfl⟩
  replace H : ((merge_Merge.f y101 y110 0 false).bind fun bt113 => ((merge_Merge.f y101 (([(([(⟨#[120, 10]⟩ : ByteArray), (⟨#[98, 10]⟩ : ByteArray), (⟨#[99, 10]⟩ : ByteArray)] : List ByteArray)), (([(⟨#[122, 10]⟩ : ByteArray), (⟨#[98, 10]⟩ : ByteArray), (⟨#[121, 10]⟩ : ByteArray)] : List ByteArray))] : List (List ByteArray))) 0 false).bind fun bt126 => ((merge_Merge.f y101 ([] : List (List ByteArray)) 0 false).bind fun bt130 => (if bt113.2 = 0 then (if bt126.2 = 0 then (if bt130.2 = 1 then (if (bt113.1.length : Int) = 1 then (if 0 < (bt113.1.length : Int) then (if (((rd_T33 bt113.1 0).f1).length : Int) = 3 then (if 2 < (((rd_T33 bt113.1 0).f1).length : Int) then (if (rdOf ByteArray.empty ((rd_T33 bt113.1 0).f1) 2).toList = ([121, 10] : List UInt8) then (if (bt126.1.length : Int) = 2 then (if 0 < (bt126.1.length : Int) then (if (rd_T33 bt126.1 0).f0 = true then (if 1 < (bt126.1.length : Int) then (some ((((rd_T33 bt126.1 1).f1).length : Int) == 2)) else (none)) else (some false)) else (none)) else (some false)) else (some false)) else (none)) else (some false)) else (none)) else (some false)) else (some false)) else (some false)) else (some false))))) = some r := by first | (rw [hy110]; with_reducible exact H) | (have H2_ := (Option.bind_some _ _).symm.trans H; rw [hy110]; with_reducible exact H2_) | (have H2_ := (Option.bind_some _ _).symm.trans H; with_reducible exact H2_) | with_reducible exact H | (rw [hy110]; exact H) | exact H
  have Ny110 := Aside0.mk hy110
  clear hy110
  replace H := Option.bind_eq_some_iff.mp H
  obtain ⟨⟨t113, t116⟩, A10, H⟩ := H
  replace H : ((merge_Merge.f y101 (([(([(⟨#[120, 10]⟩ : ByteArray), (⟨#[98, 10]⟩ : ByteArray), (⟨#[99, 10]⟩ : ByteArray)] : List ByteArray)), (([(⟨#[122, 10]⟩ : ByteArray), (⟨#[98, 10]⟩ : ByteArray), (⟨#[121, 10]⟩ : ByteArray)] : List ByteArray))] : List (List ByteArray))) 0 false).bind fun bt126 => ((merge_Merge.f y101 ([] : List (List ByteArray)) 0 false).bind fun bt130 => (if t116 = 0 then (if bt126.2 = 0 then (if bt130.2 = 1 then (if (t113.length : Int) = 1 then (if 0 < (t113.length : Int) then (if (((rd_T33 t113 0).f1).length : Int) = 3 then (if 2 < (((rd_T33 t113 0).f1).length : Int) then (if (rdOf ByteArray.empty ((rd_T33 t113 0).f1) 2).toList = ([121, 10] : List UInt8) then (if (bt126.1.length : Int) = 2 then (if 0 < (bt126.1.length : Int) then (if (rd_T33 bt126.1 0).f0 = true then (if 1 < (bt126.1.length : Int) then (some ((((rd_T33 bt126.1 1).f1).length : Int) == 2)) else (none)) else (some false)) else (none)) else (some false)) else (some false)) else (none)) else (some false)) else (none)) else (some false)) else (some false)) else (some false)) else (some false)))) = some r := H
  have A1 := Aside0.mk A10
  clear A10
  obtain ⟨y117, hy117⟩ : ∃ y_ : List ByteArray, y_ = (([(⟨#[120, 10]⟩ : ByteArray), (⟨#[98, 10]⟩ : ByteArray), (⟨#[99, 10]⟩ : ByteArray)] : List ByteArray)) := ⟨_, rfl⟩
  replace H : ((merge_Merge.f y101 (([y117, (([(⟨#[122, 10]⟩ : ByteArray), (⟨#[98, 10]⟩ : ByteArray), (⟨#[121, 10]⟩ : ByteArray)] : List ByteArray))] : List (List ByteArray))) 0 false).bind fun bt126 => ((merge_Merge.f y101 ([] : List (List ByteArray)) 0 false).bind fun bt130 => (if t116 = 0 then (if bt126.2 = 0 then (if bt130.2 = 1 then (if (t113.length : Int) = 1 then (if 0 < (t113.length : Int) then (if (((rd_T33 t113 0).f1).length : Int) = 3 then (if 2 < (((rd_T33 t113 0).f1).length : Int) then (if (rdOf ByteArray.empty ((rd_T33 t113 0).f1) 2).toList = ([121, 10] : List UInt8) then (if (bt126.1.length : Int) = 2 then (if 0 < (bt126.1.length : Int) then (if (rd_T33 bt126.1 0).f0 = true then (if 1 < (bt126.1.length : Int) then (some ((((rd_T33 bt126.1 1).f1).length : Int) == 2)) else (none)) else (some false)) else (none)) else (some false)) else (some false)) else (none)) else (some false)) else (none)) else (some false)) else (some false)) else (some false)) else (some false)))) = some r := by first | (rw [hy117]; with_reducible exact H) | (have H2_ := (Option.bind_some _ _).symm.trans H; rw [hy117]; with_reducible exact H2_) | (have H2_ := (Option.bind_some _ _).symm.trans H; with_reducible exact H2_) | with_reducible exact H | (rw [hy117]; exact H) | exact H
  have Ny117 := Aside0.mk hy117
  clear hy117
  obtain ⟨y120, hy120⟩ : ∃ y_ : List ByteArray, y_ = (([(⟨#[122, 10]⟩ : ByteArray), (⟨#[98, 10]⟩ : ByteArray), (⟨#[121, 10]⟩ : ByteArray)] : List ByteArray)) := ⟨_, rfl⟩
  replace H : ((merge_Merge.f y101 (([y117, y120] : List (List ByteArray))) 0 false).bind fun bt126 => ((merge_Merge.f y101 ([] : List (List ByteArray)) 0 false).bind fun bt130 => (if t116 = 0 then (if bt126.2 = 0 then (if bt130.2 = 1 then (if (t113.length : Int) = 1 then (if 0 < (t113.length : Int) then (if (((rd_T33 t113 0).f1).length : Int) = 3 then (if 2 < (((rd_T33 t113 0).f1).length : Int) then (if (rdOf ByteArray.empty ((rd_T33 t113 0).f1) 2).toList = ([121, 10] : List UInt8) then (if (bt126.1.length : Int) = 2 then (if 0 < (bt126.1.length : Int) then (if (rd_T33 bt126.1 0).f0 = true then (if 1 < (bt126.1.length : Int) then (some ((((rd_T33 bt126.1 1).f1).length : Int) == 2)) else (none)) else (some false)) else (none)) else (some false)) else (some false)) else (none)) else (some false)) else (none)) else (some false)) else (some false)) else (some false)) else (some false)))) = some r := by first | (rw [hy120]; with_reducible exact H) | (have H2_ := (Option.bind_some _ _).symm.trans H; rw [hy120]; with_reducible exact H2_) | (have H2_ := (Option.bind_some _ _).symm.trans H; with_reducible exact H2_) | with_reducible exact H | (rw [hy120]; exact H) | exact H
  have Ny120 := Aside0.mk hy120
  clear hy120
  obtain ⟨y123, hy123⟩ : ∃ y_ : List (List ByteArray), y_ = (([y117, y120] : List (List ByteArray))) := ⟨_, rfl⟩
  replace H : ((merge_Merge.f y101 y123 0 false).bind fun bt126 => ((merge_Merge.f y101 ([] : List (List ByteArray)) 0 false).bind fun bt130 => (if t116 = 0 then (if bt126.2 = 0 then (if bt130.2 = 1 then (if (t113.length : Int) = 1 then (if 0 < (t113.length : Int) then (if (((rd_T33 t113 0).f1).length : Int) = 3 then (if 2 < (((rd_T33 t113 0).f1).length : Int) then (if (rdOf ByteArray.empty ((rd_T33 t113 0).f1) 2).toList = ([121, 10] : List UInt8) then (if (bt126.1.length : Int) = 2 then (if 0 < (bt126.1.length : Int) then (if (rd_T33 bt126.1 0).f0 = true then (if 1 < (bt126.1.length : Int) then (some ((((rd_T33 bt126.1 1).f1).length : Int) == 2)) else (none)) else (some false)) else (none)) else (some false)) else (some false)) else (none)) else (some false)) else (none)) else (some false)) else (some false)) else (some false)) else (some false)))) = some r := by first | (rw [hy123]; with_reducible exact H) | (have H2_ := (Option.bind_some _ _).symm.trans H; rw [hy123]; with_reducible exact H2_) | (have H2_ := (Option.bind_some _ _).symm.trans H; with_reducible exact H2_) | with_reducible exact H | (rw [hy123]; exact H) | exact H
  have Ny123 := Aside0.mk hy123
  clear hy123
  replace H := Option.bind_eq_some_iff.mp H
  obtain ⟨⟨t126, t129⟩, A20, H⟩ := H
  replace H : ((merge_Merge.f y101 ([] : List (List ByteArray)) 0 false).bind fun bt130 => (if t116 = 0 then (if t129 = 0 then (if bt130.2 = 1 then (if (t113.length : Int) = 1 then (if 0 < (t113.length : Int) then (if (((rd_T33 t113 0).f1).length : Int) = 3 then (if 2 < (((rd_T33 t113 0).f1).length : Int) then (if (rdOf ByteArray.empty ((rd_T33 t113 0).f1) 2).toList = ([121, 10] : List UInt8) then (if (t126.length : Int) = 2 then (if 0 < (t126.length : Int) then (if (rd_T33 t126 0).f0 = true then (if 1 < (t126.length : Int) then (some ((((rd_T33 t126 1).f1).length : Int) == 2)) else (none)) else (some false)) else (none)) else (some false)) else (some false)) else (none)) else (some false)) else (none)) else (some false)) else (some false)) else (some false)) else (some false))) = some r := H
  have A2 := Aside0.mk A20
  clear A20
  replace H := Option.bind_eq_some_iff.mp H
  obtain ⟨⟨t130, t133⟩, A30, H⟩ := H
  replace H : (if t116 = 0 then (if t129 = 0 then (if t133 = 1 then (if (t113.length : Int) = 1 then (if 0 < (t113.length : Int) then (if (((rd_T33 t113 0).f1).length : Int) = 3 then (if 2 < (((rd_T33 t113 0).f1).length : Int) then (if (rdOf ByteArray.empty ((rd_T33 t113 0).f1) 2).toList = ([121, 10] : List UInt8) then (if (t126.length : Int) = 2 then (if 0 < (t126.length : Int) then (if (rd_T33 t126 0).f0 = true then (if 1 < (t126.length : Int) then (some ((((rd_T33 t126 1).f1).length : Int) == 2)) else (none)) else (some false)) else (none)) else (some false)) else (some false)) else (none)) else (some false)) else (none)) else (some false)) else (some false)) else (some false)) else (some false)) = some r := H
  have A3 := Aside0.mk A30
  clear A30
  by_cases c4 : t116 = 0
  · rw [if_pos c4] at H
    have c4b0 : (t116 == 0) = true := beq_iff_eq.mpr c4
    have c4b1 : (t116 != 0) = false := bne_eq_false_iff_eq.mpr c4
    clear c4
    by_cases c5 : t129 = 0
    · rw [if_pos c5] at H
      have c5b0 : (t129 == 0) = true := beq_iff_eq.mpr c5
      have c5b1 : (t129 != 0) = false := bne_eq_false_iff_eq.mpr c5
      clear c5
      by_cases c6 : t133 = 1
      · rw [if_pos c6] at H
        have c6b0 : (t133 == 1) = true := beq_iff_eq.mpr c6
        have c6b1 : (t133 != 1) = false := bne_eq_false_iff_eq.mpr c6
        clear c6
        by_cases c7 : (t113.length : Int) = 1
        · rw [if_pos c7] at H
          have c7b0 : ((t113.length : Int) == 1) = true := beq_iff_eq.mpr c7
          have c7b1 : ((t113.length : Int) != 1) = false := bne_eq_false_iff_eq.mpr c7
          clear c7
          by_cases c8 : 0 < (t113.length : Int)
          · rw [if_pos c8] at H
            have c8b0 : decide (0 < (t113.length : Int)) = true := decide_eq_true c8
            have c8b1 : decide (0 < t113.length) = true := decide_eq_true (by omega)
            clear c8
            by_cases c9 : (((rd_T33 t113 0).f1).length : Int) = 3
            · rw [if_pos c9] at H
              have c9b0 : ((((rd_T33 t113 0).f1).length : Int) == 3) = true := beq_iff_eq.mpr c9
              have c9b1 : ((((rd_T33 t113 0).f1).length : Int) != 3) = false := bne_eq_false_iff_eq.mpr c9
              clear c9
              by_cases c10 : 2 < (((rd_T33 t113 0).f1).length : Int)
              · rw [if_pos c10] at H
                have c10b0 : decide (2 < (((rd_T33 t113 0).f1).length : Int)) = true := decide_eq_true c10
                have c10b1 : decide (2 < ((rd_T33 t113 0).f1).length) = true := decide_eq_true (by omega)
                clear c10
                by_cases c11 : (rdOf ByteArray.empty ((rd_T33 t113 0).f1) 2).toList = ([121, 10] : List UInt8)
                · rw [if_pos c11] at H
                  have c11b0 : ((rdOf ByteArray.empty ((rd_T33 t113 0).f1) 2).toList == ([121, 10] : List UInt8)) = true := beq_iff_eq.mpr c11
                  have c11b1 : ((rdOf ByteArray.empty ((rd_T33 t113 0).f1) 2).toList != ([121, 10] : List UInt8)) = false := bne_eq_false_iff_eq.mpr c11
                  clear c11
                  by_cases c12 : (t126.length : Int) = 2
                  · rw [if_pos c12] at H
                    have c12b0 : ((t126.length : Int) == 2) = true := beq_iff_eq.mpr c12
                    have c12b1 : ((t126.length : Int) != 2) = false := bne_eq_false_iff_eq.mpr c12
                    clear c12
                    by_cases c13 : 0 < (t126.length : Int)
                    · rw [if_pos c13] at H
                      have c13b0 : decide (0 < (t126.length : Int)) = true := decide_eq_true c13
                      have c13b1 : decide (0 < t126.length) = true := decide_eq_true (by omega)
                      clear c13
                      obtain ⟨bq14, hbq14⟩ : ∃ b_ : Bool, b_ = ((rd_T33 t126 0).f0) := ⟨_, rfl⟩
                      replace H : (if bq14 = true then (if 1 < (t126.length : Int) then (some ((((rd_T33 t126 1).f1).length : Int) == 2)) else (none)) else (some false)) = some r := by rw [← hbq14] at H; exact H
                      have Nbq14 := Aside0.mk hbq14
                      clear hbq14
                      by_cases c15 : bq14 = true
                      · subst c15
                        have H1 : (if 1 < (t126.length : Int) then (some ((((rd_T33 t126 1).f1).length : Int) == 2)) else (none)) = some r := by rw [if_pos rfl] at H; exact H
                        clear H
                        have H := H1
                        clear H1
                        by_cases c16 : 1 < (t126.length : Int)
                        · rw [if_pos c16] at H
                          have c16b0 : decide (1 < (t126.length : Int)) = true := decide_eq_true c16
                          have c16b1 : decide (1 < t126.length) = true := decide_eq_true (by omega)
                          clear c16
                          obtain rfl := Option.some.inj H
                          go_enter Try.func4, Try.ntmps4
                          go_wp2_with (first | ((with_reducible refine gate_dst (N := 8) rfl ?_); (try (refine gate_guard (by rfl) ?_; dsimp only)); refine Kd.R_lit Kd.string _ 9 ?hg (N := 8) ?hd (xs := ([(⟨#[97, 10]⟩ : ByteArray), (⟨#[98, 10]⟩ : ByteArray), (⟨#[99, 10]⟩ : ByteArray)] : List ByteArray)) (inner := [.string (⟨#[97, 10]⟩ : ByteArray), .string (⟨#[98, 10]⟩ : ByteArray), .string (⟨#[99, 10]⟩ : ByteArray)]) (ok := fun _ => True) (okp := fun _ => True) ?hr ?hp (fun _ hk => hk) trivial (Below.refl _ _) (Nat.le_refl _) (by simp) ?_; (case hd => rfl); (case hg => rfl); (case hr => first | (go_simp; done) | (go_simp; rfl)); (case hp => exact (Reps.one (show Kd.M Kd.string _ _ _ (⟨#[97, 10]⟩ : ByteArray) [.string (⟨#[97, 10]⟩ : ByteArray)] from rfl) (Reps.one (show Kd.M Kd.string _ _ _ (⟨#[98, 10]⟩ : ByteArray) [.string (⟨#[98, 10]⟩ : ByteArray)] from rfl) (Reps.one (show Kd.M Kd.string _ _ _ (⟨#[99, 10]⟩ : ByteArray) [.string (⟨#[99, 10]⟩ : ByteArray)] from rfl) (Reps.none _ _))))); intro v102 w17 ho18 hb hg_ hnew_; clear hg_ hnew_; (first | rw [← Ny101.out] at ho18 | (simp only [Int.reduceToNat] at ho18; rw [← Ny101.out] at ho18)); have n0_ := Aside0.mk (Kd.R_lower ho18 (below_size (by repeat (first | (with_reducible first | exact HB.out | apply below_alloc | apply pw_below_drewN | apply below_drew1) | exact HB.out)))); have n1_ := Aside0.mk (below_step (by repeat (first | (with_reducible first | exact HB.out | apply below_alloc | apply pw_below_drewN | apply below_drew1) | exact HB.out)) hb); clear HB; have HO103 := n0_; have HB := n1_; clear n0_ n1_; clear hb ho18) | ((with_reducible refine gate_dst (N := 11) rfl ?_); (try (refine gate_guard (by rfl) ?_; dsimp only)); refine Kd.R_lit Kd.string _ 9 ?hg (N := 11) ?hd (xs := ([(⟨#[120, 10]⟩ : ByteArray), (⟨#[98, 10]⟩ : ByteArray), (⟨#[99, 10]⟩ : ByteArray)] : List ByteArray)) (inner := [.string (⟨#[120, 10]⟩ : ByteArray), .string (⟨#[98, 10]⟩ : ByteArray), .string (⟨#[99, 10]⟩ : ByteArray)]) (ok := fun _ => True) (okp := fun _ => True) ?hr ?hp (fun _ hk => hk) trivial (Below.refl _ _) (Nat.le_refl _) (by simp) ?_; (case hd => rfl); (case hg => rfl); (case hr => first | (go_simp; done) | (go_simp; rfl)); (case hp => exact (Reps.one (show Kd.M Kd.string _ _ _ (⟨#[120, 10]⟩ : ByteArray) [.string (⟨#[120, 10]⟩ : ByteArray)] from rfl) (Reps.one (show Kd.M Kd.string _ _ _ (⟨#[98, 10]⟩ : ByteArray) [.string (⟨#[98, 10]⟩ : ByteArray)] from rfl) (Reps.one (show Kd.M Kd.string _ _ _ (⟨#[99, 10]⟩ : ByteArray) [.string (⟨#[99, 10]⟩ : ByteArray)] from rfl) (Reps.none _ _))))); intro v105 w19 ho20 hb hg_ hnew_; clear hg_ hnew_; (first | rw [← Ny104.out] at ho20 | (simp only [Int.reduceToNat] at ho20; rw [← Ny104.out] at ho20)); have n0_ := Aside0.mk (Kd.R_elder' (by (with_reducible repeat (first | apply Kd.R_alloc | apply Kd.R_drewN | apply Kd.R_drew)); exact HO103.out) (Kd.R_base ho20) hb); have n1_ := Aside0.mk (Kd.R_lower (Kd.R_new' ho20 (Kd.R_lt (by (with_reducible repeat (first | apply Kd.R_alloc | apply Kd.R_drewN | apply Kd.R_drew)); exact HO103.out))) (below_size (by repeat (first | (with_reducible first | exact HB.out | apply below_alloc | apply pw_below_drewN | apply below_drew1) | exact HB.out)))); have n2_ := Aside0.mk (below_step (by repeat (first | (with_reducible first | exact HB.out | apply below_alloc | apply pw_below_drewN | apply below_drew1) | exact HB.out)) hb); clear HO103; clear HB; have HO103 := n0_; have HO106 := n1_; have HB := n2_; clear n0_ n1_ n2_; clear hb ho20) | ((with_reducible refine gate_dst (N := 12) rfl ?_); (try (refine gate_guard (by rfl) ?_; dsimp only)); refine Kd.R_lit Kd.string _ 9 ?hg (N := 12) ?hd (xs := ([(⟨#[97, 10]⟩ : ByteArray), (⟨#[98, 10]⟩ : ByteArray), (⟨#[121, 10]⟩ : ByteArray)] : List ByteArray)) (inner := [.string (⟨#[97, 10]⟩ : ByteArray), .string (⟨#[98, 10]⟩ : ByteArray), .string (⟨#[121, 10]⟩ : ByteArray)]) (ok := fun _ => True) (okp := fun _ => True) ?hr ?hp (fun _ hk => hk) trivial (Below.refl _ _) (Nat.le_refl _) (by simp) ?_; (case hd => rfl); (case hg => rfl); (case hr => first | (go_simp; done) | (go_simp; rfl)); (case hp => exact (Reps.one (show Kd.M Kd.string _ _ _ (⟨#[97, 10]⟩ : ByteArray) [.string (⟨#[97, 10]⟩ : ByteArray)] from rfl) (Reps.one (show Kd.M Kd.string _ _ _ (⟨#[98, 10]⟩ : ByteArray) [.string (⟨#[98, 10]⟩ : ByteArray)] from rfl) (Reps.one (show Kd.M Kd.string _ _ _ (⟨#[121, 10]⟩ : ByteArray) [.string (⟨#[121, 10]⟩ : ByteArray)] from rfl) (Reps.none _ _))))); intro v108 w21 ho22 hb hg_ hnew_; clear hg_ hnew_; (first | rw [← Ny107.out] at ho22 | (simp only [Int.reduceToNat] at ho22; rw [← Ny107.out] at ho22)); have n0_ := Aside0.mk (Kd.R_elder' (by (with_reducible repeat (first | apply Kd.R_alloc | apply Kd.R_drewN | apply Kd.R_drew)); exact HO103.out) (Kd.R_base ho22) hb); have n1_ := Aside0.mk (Kd.R_elder' (by (with_reducible repeat (first | apply Kd.R_alloc | apply Kd.R_drewN | apply Kd.R_drew)); exact HO106.out) (Kd.R_base ho22) hb); have n2_ := Aside0.mk (Kd.R_lower (Kd.R_new' (Kd.R_new' ho22 (Kd.R_lt (by (with_reducible repeat (first | apply Kd.R_alloc | apply Kd.R_drewN | apply Kd.R_drew)); exact HO103.out))) (Kd.R_lt (by (with_reducible repeat (first | apply Kd.R_alloc | apply Kd.R_drewN | apply Kd.R_drew)); exact HO106.out))) (below_size (by repeat (first | (with_reducible first | exact HB.out | apply below_alloc | apply pw_below_drewN | apply below_drew1) | exact HB.out)))); have n3_ := Aside0.mk (below_step (by repeat (first | (with_reducible first | exact HB.out | apply below_alloc | apply pw_below_drewN | apply below_drew1) | exact HB.out)) hb); clear HO103; clear HO106; clear HB; have HO103 := n0_; have HO106 := n1_; have HO109 := n2_; have HB := n3_; clear n0_ n1_ n2_ n3_; clear hb ho22; obtain ⟨Ao23, co23, eo23⟩ := Kd.R_slice HO106.out; subst eo23; obtain ⟨Ao24, co24, eo24⟩ := Kd.R_slice HO109.out; subst eo24) | ((with_reducible refine gate_dst (N := 13) rfl ?_); (try (refine gate_guard (by rfl) ?_; dsimp only)); refine Kd.N_lit (Kd.slice 9 Kd.string) _ 22 ?hg (N' := 13) ?hd (xs := ([y104, y107] : List (List ByteArray))) (inner := [.slice Ao23 y104.length co23, .slice Ao24 y107.length co24]) (ok := (fun k_ => some k_ ≠ (v102 : Value).ownBlock)) (okp := (fun k_ => some k_ ≠ (v102 : Value).ownBlock)) ?hr ?hp (fun _ hk => hk) ((show ∀ k_, w21.heap.size ≤ k_ → (fun k_ => some k_ ≠ (v102 : Value).ownBlock) k_ from fun k_ hk => Kd.fresh' (Kd.R_lt (by (with_reducible repeat (first | apply Kd.R_alloc | apply Kd.R_drewN | apply Kd.R_drew)); exact HO103.out)) k_ hk) _ (Nat.le_refl _)) (Below.refl _ _) (Nat.le_refl _) (by simp) ?_; (case hd => rfl); (case hg => rfl); (case hr => first | (go_simp; done) | (go_simp; rfl)); (case hp => first | exact (Reps.one (show Kd.FK (Kd.slice 9 Kd.string) _ _ y104 [.slice Ao23 y104.length co23] from (Kd.FK_slice_mk (Kd.R_reads' (Kd.R_mono (ok' := (fun k_ => some k_ ≠ (v102 : Value).ownBlock)) (HO106.out) (fun k_ hk => hk.1.2))).2.1 (Kd.R_F (Kd.R_mono (ok' := (fun k_ => some k_ ≠ (v102 : Value).ownBlock)) (HO106.out) (fun k_ hk => hk.1.2))))) (Reps.one (show Kd.FK (Kd.slice 9 Kd.string) _ _ y107 [.slice Ao24 y107.length co24] from (Kd.FK_slice_mk (Kd.R_reads' (Kd.R_mono (ok' := (fun k_ => some k_ ≠ (v102 : Value).ownBlock)) (HO109.out) (fun k_ hk => hk.1.2))).2.1 (Kd.R_F (Kd.R_mono (ok' := (fun k_ => some k_ ≠ (v102 : Value).ownBlock)) (HO109.out) (fun k_ hk => hk.1.2))))) (Reps.none _ _))) | exact (Reps.one (show Kd.FK (Kd.slice 9 Kd.string) _ _ y104 [.slice Ao23 y104.length co23] from (Kd.FK_slice_mk (Kd.R_reads' (Kd.R_mono (ok' := (fun k_ => some k_ ≠ (v102 : Value).ownBlock)) (HO106.out) (fun k_ hk => hk.1.2))).2.1 (Kd.R_F (Kd.R_mono (ok' := (fun k_ => some k_ ≠ (v102 : Value).ownBlock)) (Kd.R_drewN HO106.out _) (fun k_ hk => hk.1.2))))) (Reps.one (show Kd.FK (Kd.slice 9 Kd.string) _ _ y107 [.slice Ao24 y107.length co24] from (Kd.FK_slice_mk (Kd.R_reads' (Kd.R_mono (ok' := (fun k_ => some k_ ≠ (v102 : Value).ownBlock)) (HO109.out) (fun k_ hk => hk.1.2))).2.1 (Kd.R_F (Kd.R_mono (ok' := (fun k_ => some k_ ≠ (v102 : Value).ownBlock)) (Kd.R_drewN HO109.out _) (fun k_ hk => hk.1.2))))) (Reps.none _ _)))); intro v111 w25 ho26 hb hg_ hnew_; clear hg_ hnew_; (first | rw [← Ny110.out] at ho26 | (simp only [Int.reduceToNat] at ho26; rw [← Ny110.out] at ho26)); have n0_ := Aside0.mk (Kd.R_below (by (with_reducible repeat (first | apply Kd.R_alloc | apply Kd.R_drewN | apply Kd.R_drew)); exact HO103.out) hb); have n1_ := Aside0.mk (Kd.N_lower ho26 (below_size (by repeat (first | (with_reducible first | exact HB.out | apply below_alloc | apply pw_below_drewN | apply below_drew1) | exact HB.out)))); have n2_ := Aside0.mk (below_step (by repeat (first | (with_reducible first | exact HB.out | apply below_alloc | apply pw_below_drewN | apply below_drew1) | exact HB.out)) hb); clear HO103; clear HB; clear HO106; clear HO109; have HO103 := n0_; have HO112 := n1_; have HB := n2_; clear n0_ n1_ n2_; clear hb ho26; obtain ⟨Ao27, co27, eo27⟩ := Kd.R_slice HO103.out; subst eo27; obtain ⟨Ao28, co28, eo28⟩ := Kd.N_slice HO112.out; subst eo28) | ((with_reducible refine gate_callee (f := 6) rfl ?_); refine goesL_ (some 15) rfl rfl Try.func6 (by kernel_rfl) rfl #[.slice Ao27 y101.length co27, .slice Ao28 y110.length co28, .agg #[.int .i64 0, .bool false]] rfl (by (try simp only [List.map_toArray, List.map_cons, List.map_nil]); first | done | rfl | (simp only [List.length_drop, List.length_take]; rfl)) ?_; (with_reducible refine (merge_Merge.calls (fun k_ => some k_ = (.slice Ao27 y101.length co27 : Value).ownBlock) _ _ y101 (fun k_ => some k_ ≠ (.slice Ao27 y101.length co27 : Value).ownBlock) _ _ y110 0 false t113 t116 _ ?side1 ?side2 A1.out).mono ?_); (case side1 => exact Kd.R_V (Kd.R_tight rfl (Kd.R_apart' (HO103.out) (Kd.N_typed HO112.out) (by decide)))); (case side2 => exact Kd.N_V (HO112.out)); rintro e w29 ⟨v114, rfl, ho0, hb⟩; refine ⟨_, rfl, ?_⟩; have n0_ := Aside0.mk (Kd.R_below (by (with_reducible repeat (first | apply Kd.R_alloc | apply Kd.R_drewN | apply Kd.R_drew)); exact HO103.out) hb); have n1_ := Aside0.mk (Kd.N_elder' (by (with_reducible repeat (first | apply Kd.N_alloc | apply Kd.N_drewN | apply Kd.N_drew)); exact HO112.out) (Kd.N_base ho0) hb); have n2_ := Aside0.mk (Kd.N_lower (Kd.N_mono (ok' := fun k_ => True) ho0 (fun k_ hk_ => trivial)) (below_size (by repeat (first | (with_reducible first | exact HB.out | apply below_alloc | apply pw_below_drewN | apply below_drew1) | exact HB.out)))); have n3_ := Aside0.mk (below_step (by repeat (first | (with_reducible first | exact HB.out | apply below_alloc | apply pw_below_drewN | apply below_drew1) | exact HB.out)) hb); clear HO103; clear HO112; clear HB; have HO103 := n0_; have HO112 := n1_; have HO115 := n2_; have HB := n3_; clear n0_ n1_ n2_ n3_; (try clear hb); (try clear hb2); (try clear hk); (try clear hi); (try clear ho0)) | ((with_reducible refine gate_dst (N := 20) rfl ?_); (try (refine gate_guard (by rfl) ?_; dsimp only)); refine Kd.R_lit Kd.string _ 9 ?hg (N := 20) ?hd (xs := ([(⟨#[120, 10]⟩ : ByteArray), (⟨#[98, 10]⟩ : ByteArray), (⟨#[99, 10]⟩ : ByteArray)] : List ByteArray)) (inner := [.string (⟨#[120, 10]⟩ : ByteArray), .string (⟨#[98, 10]⟩ : ByteArray), .string (⟨#[99, 10]⟩ : ByteArray)]) (ok := fun _ => True) (okp := fun _ => True) ?hr ?hp (fun _ hk => hk) trivial (Below.refl _ _) (Nat.le_refl _) (by simp) ?_; (case hd => rfl); (case hg => rfl); (case hr => first | (go_simp; done) | (go_simp; rfl)); (case hp => exact (Reps.one (show Kd.M Kd.string _ _ _ (⟨#[120, 10]⟩ : ByteArray) [.string (⟨#[120, 10]⟩ : ByteArray)] from rfl) (Reps.one (show Kd.M Kd.string _ _ _ (⟨#[98, 10]⟩ : ByteArray) [.string (⟨#[98, 10]⟩ : ByteArray)] from rfl) (Reps.one (show Kd.M Kd.string _ _ _ (⟨#[99, 10]⟩ : ByteArray) [.string (⟨#[99, 10]⟩ : ByteArray)] from rfl) (Reps.none _ _))))); intro v118 w30 ho31 hb hg_ hnew_; clear hg_ hnew_; (first | rw [← Ny117.out] at ho31 | (simp only [Int.reduceToNat] at ho31; rw [← Ny117.out] at ho31)); have n0_ := Aside0.mk (Kd.R_elder' (by (with_reducible repeat (first | apply Kd.R_alloc | apply Kd.R_drewN | apply Kd.R_drew)); exact HO103.out) (Kd.R_base ho31) hb); have n1_ := Aside0.mk (Kd.N_elder' (by (with_reducible repeat (first | apply Kd.N_alloc | apply Kd.N_drewN | apply Kd.N_drew)); exact HO112.out) (Kd.R_base ho31) hb); have n2_ := Aside0.mk (Kd.N_elder' (by (with_reducible repeat (first | apply Kd.N_alloc | apply Kd.N_drewN | apply Kd.N_drew)); exact HO115.out) (Kd.R_base ho31) hb); have n3_ := Aside0.mk (Kd.R_lower (Kd.R_new' ho31 (Kd.R_lt (by (with_reducible repeat (first | apply Kd.R_alloc | apply Kd.R_drewN | apply Kd.R_drew)); exact HO103.out))) (below_size (by repeat (first | (with_reducible first | exact HB.out | apply below_alloc | apply pw_below_drewN | apply below_drew1) | exact HB.out)))); have n4_ := Aside0.mk (below_step (by repeat (first | (with_reducible first | exact HB.out | apply below_alloc | apply pw_below_drewN | apply below_drew1) | exact HB.out)) hb); clear HO103; clear HO112; clear HO115; clear HB; have HO103 := n0_; have HO112 := n1_; have HO115 := n2_; have HO119 := n3_; have HB := n4_; clear n0_ n1_ n2_ n3_ n4_; clear hb ho31) | ((with_reducible refine gate_dst (N := 21) rfl ?_); (try (refine gate_guard (by rfl) ?_; dsimp only)); refine Kd.R_lit Kd.string _ 9 ?hg (N := 21) ?hd (xs := ([(⟨#[122, 10]⟩ : ByteArray), (⟨#[98, 10]⟩ : ByteArray), (⟨#[121, 10]⟩ : ByteArray)] : List ByteArray)) (inner := [.string (⟨#[122, 10]⟩ : ByteArray), .string (⟨#[98, 10]⟩ : ByteArray), .string (⟨#[121, 10]⟩ : ByteArray)]) (ok := fun _ => True) (okp := fun _ => True) ?hr ?hp (fun _ hk => hk) trivial (Below.refl _ _) (Nat.le_refl _) (by simp) ?_; (case hd => rfl); (case hg => rfl); (case hr => first | (go_simp; done) | (go_simp; rfl)); (case hp => exact (Reps.one (show Kd.M Kd.string _ _ _ (⟨#[122, 10]⟩ : ByteArray) [.string (⟨#[122, 10]⟩ : ByteArray)] from rfl) (Reps.one (show Kd.M Kd.string _ _ _ (⟨#[98, 10]⟩ : ByteArray) [.string (⟨#[98, 10]⟩ : ByteArray)] from rfl) (Reps.one (show Kd.M Kd.string _ _ _ (⟨#[121, 10]⟩ : ByteArray) [.string (⟨#[121, 10]⟩ : ByteArray)] from rfl) (Reps.none _ _))))); intro v121 w32 ho33 hb hg_ hnew_; clear hg_ hnew_; (first | rw [← Ny120.out] at ho33 | (simp only [Int.reduceToNat] at ho33; rw [← Ny120.out] at ho33)); have n0_ := Aside0.mk (Kd.R_elder' (by (with_reducible repeat (first | apply Kd.R_alloc | apply Kd.R_drewN | apply Kd.R_drew)); exact HO103.out) (Kd.R_base ho33) hb); have n1_ := Aside0.mk (Kd.N_elder' (by (with_reducible repeat (first | apply Kd.N_alloc | apply Kd.N_drewN | apply Kd.N_drew)); exact HO112.out) (Kd.R_base ho33) hb); have n2_ := Aside0.mk (Kd.N_elder' (by (with_reducible repeat (first | apply Kd.N_alloc | apply Kd.N_drewN | apply Kd.N_drew)); exact HO115.out) (Kd.R_base ho33) hb); have n3_ := Aside0.mk (Kd.R_elder' (by (with_reducible repeat (first | apply Kd.R_alloc | apply Kd.R_drewN | apply Kd.R_drew)); exact HO119.out) (Kd.R_base ho33) hb); have n4_ := Aside0.mk (Kd.R_lower (Kd.R_new' (Kd.R_new' ho33 (Kd.R_lt (by (with_reducible repeat (first | apply Kd.R_alloc | apply Kd.R_drewN | apply Kd.R_drew)); exact HO103.out))) (Kd.R_lt (by (with_reducible repeat (first | apply Kd.R_alloc | apply Kd.R_drewN | apply Kd.R_drew)); exact HO119.out))) (below_size (by repeat (first | (with_reducible first | exact HB.out | apply below_alloc | apply pw_below_drewN | apply below_drew1) | exact HB.out)))); have n5_ := Aside0.mk (below_step (by repeat (first | (with_reducible first | exact HB.out | apply below_alloc | apply pw_below_drewN | apply below_drew1) | exact HB.out)) hb); clear HO103; clear HO112; clear HO115; clear HO119; clear HB; have HO103 := n0_; have HO112 := n1_; have HO115 := n2_; have HO119 := n3_; have HO122 := n4_; have HB := n5_; clear n0_ n1_ n2_ n3_ n4_ n5_; clear hb ho33; obtain ⟨Ao34, co34, eo34⟩ := Kd.R_slice HO119.out; subst eo34; obtain ⟨Ao35, co35, eo35⟩ := Kd.R_slice HO122.out; subst eo35) | ((with_reducible refine gate_dst (N := 22) rfl ?_); (try (refine gate_guard (by rfl) ?_; dsimp only)); refine Kd.N_lit (Kd.slice 9 Kd.string) _ 22 ?hg (N' := 22) ?hd (xs := ([y117, y120] : List (List ByteArray))) (inner := [.slice Ao34 y117.length co34, .slice Ao35 y120.length co35]) (ok := (fun k_ => some k_ ≠ (.slice Ao27 y101.length co27 : Value).ownBlock ∧ some k_ ≠ (.slice Ao28 y110.length co28 : Value).ownBlock ∧ some k_ ≠ (v114 : Value).ownBlock)) (okp := (fun k_ => some k_ ≠ (.slice Ao27 y101.length co27 : Value).ownBlock ∧ some k_ ≠ (.slice Ao28 y110.length co28 : Value).ownBlock ∧ some k_ ≠ (v114 : Value).ownBlock)) ?hr ?hp (fun _ hk => hk) ((show ∀ k_, w32.heap.size ≤ k_ → (fun k_ => some k_ ≠ (.slice Ao27 y101.length co27 : Value).ownBlock ∧ some k_ ≠ (.slice Ao28 y110.length co28 : Value).ownBlock ∧ some k_ ≠ (v114 : Value).ownBlock) k_ from fun k_ hk => ⟨Kd.fresh' (Kd.R_lt (by (with_reducible repeat (first | apply Kd.R_alloc | apply Kd.R_drewN | apply Kd.R_drew)); exact HO103.out)) k_ hk, Kd.fresh' (Kd.N_lt (by (with_reducible repeat (first | apply Kd.N_alloc | apply Kd.N_drewN | apply Kd.N_drew)); exact HO112.out)) k_ hk, Kd.fresh' (Kd.N_lt (by (with_reducible repeat (first | apply Kd.N_alloc | apply Kd.N_drewN | apply Kd.N_drew)); exact HO115.out)) k_ hk⟩) _ (Nat.le_refl _)) (Below.refl _ _) (Nat.le_refl _) (by simp) ?_; (case hd => rfl); (case hg => rfl); (case hr => first | (go_simp; done) | (go_simp; rfl)); (case hp => exact (Reps.one (show Kd.FK (Kd.slice 9 Kd.string) _ _ y117 [.slice Ao34 y117.length co34] from (Kd.FK_slice_mk (Kd.R_reads' (Kd.R_mono (ok' := (fun k_ => some k_ ≠ (.slice Ao27 y101.length co27 : Value).ownBlock ∧ some k_ ≠ (.slice Ao28 y110.length co28 : Value).ownBlock ∧ some k_ ≠ (v114 : Value).ownBlock)) (Kd.R_apart' (Kd.R_apart' (HO119.out) (Kd.N_typed HO112.out) (by decide)) (Kd.N_typed HO115.out) (by decide)) (fun k_ hk => ⟨hk.1.1.1.2, ⟨hk.1.2, hk.2⟩⟩))).2.1 (Kd.R_F (Kd.R_mono (ok' := (fun k_ => some k_ ≠ (.slice Ao27 y101.length co27 : Value).ownBlock ∧ some k_ ≠ (.slice Ao28 y110.length co28 : Value).ownBlock ∧ some k_ ≠ (v114 : Value).ownBlock)) (Kd.R_apart' (Kd.R_apart' (HO119.out) (Kd.N_typed HO112.out) (by decide)) (Kd.N_typed HO115.out) (by decide)) (fun k_ hk => ⟨hk.1.1.1.2, ⟨hk.1.2, hk.2⟩⟩))))) (Reps.one (show Kd.FK (Kd.slice 9 Kd.string) _ _ y120 [.slice Ao35 y120.length co35] from (Kd.FK_slice_mk (Kd.R_reads' (Kd.R_mono (ok' := (fun k_ => some k_ ≠ (.slice Ao27 y101.length co27 : Value).ownBlock ∧ some k_ ≠ (.slice Ao28 y110.length co28 : Value).ownBlock ∧ some k_ ≠ (v114 : Value).ownBlock)) (Kd.R_apart' (Kd.R_apart' (HO122.out) (Kd.N_typed HO112.out) (by decide)) (Kd.N_typed HO115.out) (by decide)) (fun k_ hk => ⟨hk.1.1.1.2, ⟨hk.1.2, hk.2⟩⟩))).2.1 (Kd.R_F (Kd.R_mono (ok' := (fun k_ => some k_ ≠ (.slice Ao27 y101.length co27 : Value).ownBlock ∧ some k_ ≠ (.slice Ao28 y110.length co28 : Value).ownBlock ∧ some k_ ≠ (v114 : Value).ownBlock)) (Kd.R_apart' (Kd.R_apart' (HO122.out) (Kd.N_typed HO112.out) (by decide)) (Kd.N_typed HO115.out) (by decide)) (fun k_ hk => ⟨hk.1.1.1.2, ⟨hk.1.2, hk.2⟩⟩))))) (Reps.none _ _)))); intro v124 w36 ho37 hb hg_ hnew_; clear hg_ hnew_; (first | rw [← Ny123.out] at ho37 | (simp only [Int.reduceToNat] at ho37; rw [← Ny123.out] at ho37)); have n0_ := Aside0.mk (Kd.R_below (by (with_reducible repeat (first | apply Kd.R_alloc | apply Kd.R_drewN | apply Kd.R_drew)); exact HO103.out) hb); have n1_ := Aside0.mk (Kd.N_elder' (by (with_reducible repeat (first | apply Kd.N_alloc | apply Kd.N_drewN | apply Kd.N_drew)); exact HO112.out) (Kd.N_base ho37) hb); have n2_ := Aside0.mk (Kd.N_elder' (by (with_reducible repeat (first | apply Kd.N_alloc | apply Kd.N_drewN | apply Kd.N_drew)); exact HO115.out) (Kd.N_base ho37) hb); have n3_ := Aside0.mk (Kd.N_lower ho37 (below_size (by repeat (first | (with_reducible first | exact HB.out | apply below_alloc | apply pw_below_drewN | apply below_drew1) | exact HB.out)))); have n4_ := Aside0.mk (below_step (by repeat (first | (with_reducible first | exact HB.out | apply below_alloc | apply pw_below_drewN | apply below_drew1) | exact HB.out)) hb); clear HO103; clear HO112; clear HO115; clear HB; clear HO119; clear HO122; have HO103 := n0_; have HO112 := n1_; have HO115 := n2_; have HO125 := n3_; have HB := n4_; clear n0_ n1_ n2_ n3_ n4_; clear hb ho37; obtain ⟨Ao38, co38, eo38⟩ := Kd.N_slice HO125.out; subst eo38) | ((with_reducible refine gate_callee (f := 6) rfl ?_); refine goesL_ (some 24) rfl rfl Try.func6 (by kernel_rfl) rfl #[.slice Ao27 y101.length co27, .slice Ao38 y123.length co38, .agg #[.int .i64 0, .bool false]] rfl (by (try simp only [List.map_toArray, List.map_cons, List.map_nil]); first | done | rfl | (simp only [List.length_drop, List.length_take]; rfl)) ?_; (with_reducible refine (merge_Merge.calls (fun k_ => some k_ = (.slice Ao27 y101.length co27 : Value).ownBlock) _ _ y101 (fun k_ => (some k_ ≠ (.slice Ao27 y101.length co27 : Value).ownBlock ∧ (some k_ ≠ (.slice Ao28 y110.length co28 : Value).ownBlock ∧ some k_ ≠ (v114 : Value).ownBlock))) _ _ y123 0 false t126 t129 _ ?side1 ?side2 A2.out).mono ?_); (case side1 => exact Kd.R_V (Kd.R_tight rfl (Kd.R_apart' (Kd.R_apart' (Kd.R_apart' (HO103.out) (Kd.N_typed HO112.out) (by decide)) (Kd.N_typed HO115.out) (by decide)) (Kd.N_typed HO125.out) (by decide)))); (case side2 => exact Kd.N_V (HO125.out)); rintro e w39 ⟨v127, rfl, ho0, hb⟩; refine ⟨_, rfl, ?_⟩; have n0_ := Aside0.mk (Kd.R_below (by (with_reducible repeat (first | apply Kd.R_alloc | apply Kd.R_drewN | apply Kd.R_drew)); exact HO103.out) hb); have n1_ := Aside0.mk (Kd.N_elder' (by (with_reducible repeat (first | apply Kd.N_alloc | apply Kd.N_drewN | apply Kd.N_drew)); exact HO112.out) (Kd.N_base ho0) hb); have n2_ := Aside0.mk (Kd.N_elder' (by (with_reducible repeat (first | apply Kd.N_alloc | apply Kd.N_drewN | apply Kd.N_drew)); exact HO115.out) (Kd.N_base ho0) hb); have n3_ := Aside0.mk (Kd.N_elder' (by (with_reducible repeat (first | apply Kd.N_alloc | apply Kd.N_drewN | apply Kd.N_drew)); exact HO125.out) (Kd.N_base ho0) hb); have n4_ := Aside0.mk (Kd.N_lower (Kd.N_mono (ok' := fun k_ => some k_ ≠ (.slice Ao28 y110.length co28 : Value).ownBlock ∧ some k_ ≠ (v114 : Value).ownBlock) ho0 (fun k_ hk_ => ⟨Or.elim hk_ (fun hs_ => Or.elim hs_ (fun hs_ => ((Kd.R_apart' (Kd.R_apart' (Kd.R_apart' (HO103.out) (Kd.N_typed HO112.out) (by decide)) (Kd.N_typed HO115.out) (by decide)) (Kd.N_typed HO125.out) (by decide)).1 k_ hs_.symm).1.1.2) (fun hs_ => hs_.2.1)) (fun hn_ => (Kd.fresh' (Kd.N_lt (by (with_reducible repeat (first | apply Kd.N_alloc | apply Kd.N_drewN | apply Kd.N_drew)); exact HO112.out)) k_ hn_)), Or.elim hk_ (fun hs_ => Or.elim hs_ (fun hs_ => ((Kd.R_apart' (Kd.R_apart' (Kd.R_apart' (HO103.out) (Kd.N_typed HO112.out) (by decide)) (Kd.N_typed HO115.out) (by decide)) (Kd.N_typed HO125.out) (by decide)).1 k_ hs_.symm).1.2) (fun hs_ => hs_.2.2)) (fun hn_ => (Kd.fresh' (Kd.N_lt (by (with_reducible repeat (first | apply Kd.N_alloc | apply Kd.N_drewN | apply Kd.N_drew)); exact HO115.out)) k_ hn_))⟩)) (below_size (by repeat (first | (with_reducible first | exact HB.out | apply below_alloc | apply pw_below_drewN | apply below_drew1) | exact HB.out)))); have n5_ := Aside0.mk (below_step (by repeat (first | (with_reducible first | exact HB.out | apply below_alloc | apply pw_below_drewN | apply below_drew1) | exact HB.out)) hb); clear HO103; clear HO112; clear HO115; clear HO125; clear HB; have HO103 := n0_; have HO112 := n1_; have HO115 := n2_; have HO125 := n3_; have HO128 := n4_; have HB := n5_; clear n0_ n1_ n2_ n3_ n4_ n5_; (try clear hb); (try clear hb2); (try clear hk); (try clear hi); (try clear ho0)) | ((with_reducible refine gate_callee (f := 6) rfl ?_); refine goesL_ (some 30) rfl rfl Try.func6 (by kernel_rfl) rfl #[.slice Ao27 y101.length co27, .slice none 0 0, .agg #[.int .i64 0, .bool false]] rfl (by (try simp only [List.map_toArray, List.map_cons, List.map_nil]); first | done | rfl | (simp only [List.length_drop, List.length_take]; rfl)) ?_; (refine (merge_Merge.calls (fun k_ => some k_ = (.slice Ao27 y101.length co27 : Value).ownBlock) _ _ y101 (fun k_ => False) _ _ ([] : List (List ByteArray)) 0 false t130 t133 _ ?side1 ?side2 A3.out).mono ?_); (case side1 => exact Kd.R_V (Kd.R_tight rfl (Kd.R_apart' (Kd.R_apart' (Kd.R_apart' (Kd.R_apart' (HO103.out) (Kd.N_typed HO112.out) (by decide)) (Kd.N_typed HO115.out) (by decide)) (Kd.N_typed HO125.out) (by decide)) (Kd.N_typed HO128.out) (by decide)))); (case side2 => exact Kd.V_nil _ _ _ _ _); rintro e w40 ⟨v131, rfl, ho0, hb⟩; refine ⟨_, rfl, ?_⟩; have n0_ := Aside0.mk (Kd.R_below (by (with_reducible repeat (first | apply Kd.R_alloc | apply Kd.R_drewN | apply Kd.R_drew)); exact HO103.out) hb); have n1_ := Aside0.mk (Kd.N_elder' (by (with_reducible repeat (first | apply Kd.N_alloc | apply Kd.N_drewN | apply Kd.N_drew)); exact HO112.out) (Kd.N_base ho0) hb); have n2_ := Aside0.mk (Kd.N_elder' (by (with_reducible repeat (first | apply Kd.N_alloc | apply Kd.N_drewN | apply Kd.N_drew)); exact HO115.out) (Kd.N_base ho0) hb); have n3_ := Aside0.mk (Kd.N_elder' (by (with_reducible repeat (first | apply Kd.N_alloc | apply Kd.N_drewN | apply Kd.N_drew)); exact HO125.out) (Kd.N_base ho0) hb); have n4_ := Aside0.mk (Kd.N_elder' (by (with_reducible repeat (first | apply Kd.N_alloc | apply Kd.N_drewN | apply Kd.N_drew)); exact HO128.out) (Kd.N_base ho0) hb); have n5_ := Aside0.mk (Kd.N_lower (Kd.N_mono (ok' := fun k_ => some k_ ≠ (.slice Ao28 y110.length co28 : Value).ownBlock ∧ some k_ ≠ (v114 : Value).ownBlock ∧ some k_ ≠ (.slice Ao38 y123.length co38 : Value).ownBlock ∧ some k_ ≠ (v127 : Value).ownBlock) ho0 (fun k_ hk_ => ⟨Or.elim hk_ (fun hs_ => Or.elim hs_ (fun hs_ => ((Kd.R_apart' (Kd.R_apart' (Kd.R_apart' (Kd.R_apart' (HO103.out) (Kd.N_typed HO112.out) (by decide)) (Kd.N_typed HO115.out) (by decide)) (Kd.N_typed HO125.out) (by decide)) (Kd.N_typed HO128.out) (by decide)).1 k_ hs_.symm).1.1.1.2) (fun hs_ => (hs_).elim)) (fun hn_ => (Kd.fresh' (Kd.N_lt (by (with_reducible repeat (first | apply Kd.N_alloc | apply Kd.N_drewN | apply Kd.N_drew)); exact HO112.out)) k_ hn_)), Or.elim hk_ (fun hs_ => Or.elim hs_ (fun hs_ => ((Kd.R_apart' (Kd.R_apart' (Kd.R_apart' (Kd.R_apart' (HO103.out) (Kd.N_typed HO112.out) (by decide)) (Kd.N_typed HO115.out) (by decide)) (Kd.N_typed HO125.out) (by decide)) (Kd.N_typed HO128.out) (by decide)).1 k_ hs_.symm).1.1.2) (fun hs_ => (hs_).elim)) (fun hn_ => (Kd.fresh' (Kd.N_lt (by (with_reducible repeat (first | apply Kd.N_alloc | apply Kd.N_drewN | apply Kd.N_drew)); exact HO115.out)) k_ hn_)), Or.elim hk_ (fun hs_ => Or.elim hs_ (fun hs_ => ((Kd.R_apart' (Kd.R_apart' (Kd.R_apart' (Kd.R_apart' (HO103.out) (Kd.N_typed HO112.out) (by decide)) (Kd.N_typed HO115.out) (by decide)) (Kd.N_typed HO125.out) (by decide)) (Kd.N_typed HO128.out) (by decide)).1 k_ hs_.symm).1.2) (fun hs_ => (hs_).elim)) (fun hn_ => (Kd.fresh' (Kd.N_lt (by (with_reducible repeat (first | apply Kd.N_alloc | apply Kd.N_drewN | apply Kd.N_drew)); exact HO125.out)) k_ hn_)), Or.elim hk_ (fun hs_ => Or.elim hs_ (fun hs_ => ((Kd.R_apart' (Kd.R_apart' (Kd.R_apart' (Kd.R_apart' (HO103.out) (Kd.N_typed HO112.out) (by decide)) (Kd.N_typed HO115.out) (by decide)) (Kd.N_typed HO125.out) (by decide)) (Kd.N_typed HO128.out) (by decide)).1 k_ hs_.symm).2) (fun hs_ => (hs_).elim)) (fun hn_ => (Kd.fresh' (Kd.N_lt (by (with_reducible repeat (first | apply Kd.N_alloc | apply Kd.N_drewN | apply Kd.N_drew)); exact HO128.out)) k_ hn_))⟩)) (below_size (by repeat (first | (with_reducible first | exact HB.out | apply below_alloc | apply pw_below_drewN | apply below_drew1) | exact HB.out)))); have n6_ := Aside0.mk (below_step (by repeat (first | (with_reducible first | exact HB.out | apply below_alloc | apply pw_below_drewN | apply below_drew1) | exact HB.out)) hb); clear HO103; clear HO112; clear HO115; clear HO125; clear HO128; clear HB; have HO103 := n0_; have HO112 := n1_; have HO115 := n2_; have HO125 := n3_; have HO128 := n4_; have HO132 := n5_; have HB := n6_; clear n0_ n1_ n2_ n3_ n4_ n5_ n6_; (try clear hb); (try clear hb2); (try clear hk); (try clear hi); (try clear ho0); obtain ⟨Ao41, co41, eo41⟩ := Kd.N_slice HO115.out; subst eo41; have p134 : 0 ≤ (0 : Int) := (by omega); have q134 : 0 < (t113.length : Int) := of_decide_eq_true (by first | (with_reducible assumption) | assumption); obtain ⟨ad134, A134_1, c134_1, A134_2, c134_2, A134_3, c134_3, e134, hx134_0, hx134_1, hx134_2, hx134_3, hl134_1, hi134_1, hl134_2, hi134_2, hl134_3, hi134_3⟩ := at_T33 (Kd.N_reads' HO115.out).2.2 0 p134 q134; (try rw [← Nbq14.out] at hx134_0); cases e134; obtain ⟨ce134, hce134, hMe134, hcc134⟩ := Kd.N_get HO115.out z33 0 p134 (by first | exact q134 | exact of_decide_eq_true (by first | (with_reducible assumption) | assumption) | (have e_ := (Kd.N_reads' HO115.out).1; omega)); obtain ⟨ua134_1, uc134_1, ua134_2, uc134_2, ua134_3, uc134_3, rfl, ul134_1, ge134_1, ul134_2, ge134_2, ul134_3, ge134_3⟩ := k33_openF hMe134; have hv134_1 := hcc134 1 _ rfl; rw [add_field _ _ 1 (by omega)] at hv134_1; replace hv134_1 := Option.some.inj (hv134_1.symm.trans hx134_1); injection hv134_1 with hva_ hvn_ hvc_; rw [hva_] at ge134_1; rw [hvc_] at ul134_1; have HL134_1 := Aside0.mk (show Kd.V Kd.string 9 _ w.heap.size _ _ ((rd_T33 t113 0).f1) from Kd.V_mk ul134_1 ge134_1); clear hva_ hvn_ hvc_ ge134_1 ul134_1; have hv134_2 := hcc134 2 _ rfl; rw [add_field _ _ 2 (by omega)] at hv134_2; replace hv134_2 := Option.some.inj (hv134_2.symm.trans hx134_2); injection hv134_2 with hva_ hvn_ hvc_; rw [hva_] at ge134_2; rw [hvc_] at ul134_2; have HL134_2 := Aside0.mk (show Kd.V Kd.string 9 _ w.heap.size _ _ ((rd_T33 t113 0).f2) from Kd.V_mk ul134_2 ge134_2); clear hva_ hvn_ hvc_ ge134_2 ul134_2; have hv134_3 := hcc134 3 _ rfl; rw [add_field _ _ 3 (by omega)] at hv134_3; replace hv134_3 := Option.some.inj (hv134_3.symm.trans hx134_3); injection hv134_3 with hva_ hvn_ hvc_; rw [hva_] at ge134_3; rw [hvc_] at ul134_3; have HL134_3 := Aside0.mk (show Kd.V (Kd.slice 9 Kd.string) 22 _ w.heap.size _ _ ((rd_T33 t113 0).f3) from Kd.V_mk ul134_3 ge134_3); clear hva_ hvn_ hvc_ ge134_3 ul134_3; clear hcc134 hce134; have qi134 : (0 < t113.length) = True := eq_true (by omega); (try rw [show ((0 : Int)).toNat = 0 from rfl] at hx134_0); (try rw [show 0 * 4 = 0 from rfl] at hx134_0); (try rw [Addr.add_zero'] at hx134_0); (try rw [show ((0 : Int)).toNat = 0 from rfl] at hx134_1); (try rw [show 0 * 4 = 0 from rfl] at hx134_1); (try rw [Addr.add_zero'] at hx134_1); (try rw [show ((0 : Int)).toNat = 0 from rfl] at hx134_2); (try rw [show 0 * 4 = 0 from rfl] at hx134_2); (try rw [Addr.add_zero'] at hx134_2); (try rw [show ((0 : Int)).toNat = 0 from rfl] at hx134_3); (try rw [show 0 * 4 = 0 from rfl] at hx134_3); (try rw [Addr.add_zero'] at hx134_3); have HR134_1 := Aside0.mk hi134_1; have HC134_1 := Aside0.mk hl134_1; clear hi134_1 hl134_1; have HR134_2 := Aside0.mk hi134_2; have HC134_2 := Aside0.mk hl134_2; clear hi134_2 hl134_2; have HR134_3 := Aside0.mk hi134_3; have HC134_3 := Aside0.mk hl134_3; clear hi134_3 hl134_3; replace p134 := eq_true p134; replace q134 := eq_true q134; have p135 : 0 ≤ (0 : Int) := (by omega); have q135 : 0 < (t113.length : Int) := of_decide_eq_true (by first | (with_reducible assumption) | assumption); obtain ⟨ad135, A135_1, c135_1, A135_2, c135_2, A135_3, c135_3, e135, hx135_0, hx135_1, hx135_2, hx135_3, hl135_1, hi135_1, hl135_2, hi135_2, hl135_3, hi135_3⟩ := at_T33 (Kd.N_reads' HO115.out).2.2 0 p135 q135; (try rw [← Nbq14.out] at hx135_0); obtain rfl : ad134 = ad135 := (by injection e135); obtain ⟨ce135, hce135, hMe135, hcc135⟩ := Kd.N_get HO115.out z33 0 p135 (by first | exact q135 | exact of_decide_eq_true (by first | (with_reducible assumption) | assumption) | (have e_ := (Kd.N_reads' HO115.out).1; omega)); obtain ⟨ua135_1, uc135_1, ua135_2, uc135_2, ua135_3, uc135_3, rfl, ul135_1, ge135_1, ul135_2, ge135_2, ul135_3, ge135_3⟩ := k33_openF hMe135; have hv135_1 := hcc135 1 _ rfl; rw [add_field _ _ 1 (by omega)] at hv135_1; replace hv135_1 := Option.some.inj (hv135_1.symm.trans hx135_1); injection hv135_1 with hva_ hvn_ hvc_; rw [hva_] at ge135_1; rw [hvc_] at ul135_1; have HL135_1 := Aside0.mk (show Kd.V Kd.string 9 _ w.heap.size _ _ ((rd_T33 t113 0).f1) from Kd.V_mk ul135_1 ge135_1); clear hva_ hvn_ hvc_ ge135_1 ul135_1; have hv135_2 := hcc135 2 _ rfl; rw [add_field _ _ 2 (by omega)] at hv135_2; replace hv135_2 := Option.some.inj (hv135_2.symm.trans hx135_2); injection hv135_2 with hva_ hvn_ hvc_; rw [hva_] at ge135_2; rw [hvc_] at ul135_2; have HL135_2 := Aside0.mk (show Kd.V Kd.string 9 _ w.heap.size _ _ ((rd_T33 t113 0).f2) from Kd.V_mk ul135_2 ge135_2); clear hva_ hvn_ hvc_ ge135_2 ul135_2; have hv135_3 := hcc135 3 _ rfl; rw [add_field _ _ 3 (by omega)] at hv135_3; replace hv135_3 := Option.some.inj (hv135_3.symm.trans hx135_3); injection hv135_3 with hva_ hvn_ hvc_; rw [hva_] at ge135_3; rw [hvc_] at ul135_3; have HL135_3 := Aside0.mk (show Kd.V (Kd.slice 9 Kd.string) 22 _ w.heap.size _ _ ((rd_T33 t113 0).f3) from Kd.V_mk ul135_3 ge135_3); clear hva_ hvn_ hvc_ ge135_3 ul135_3; clear hcc135 hce135; have qi135 : (0 < t113.length) = True := eq_true (by omega); (try rw [show ((0 : Int)).toNat = 0 from rfl] at hx135_0); (try rw [show 0 * 4 = 0 from rfl] at hx135_0); (try rw [Addr.add_zero'] at hx135_0); (try rw [show ((0 : Int)).toNat = 0 from rfl] at hx135_1); (try rw [show 0 * 4 = 0 from rfl] at hx135_1); (try rw [Addr.add_zero'] at hx135_1); (try rw [show ((0 : Int)).toNat = 0 from rfl] at hx135_2); (try rw [show 0 * 4 = 0 from rfl] at hx135_2); (try rw [Addr.add_zero'] at hx135_2); (try rw [show ((0 : Int)).toNat = 0 from rfl] at hx135_3); (try rw [show 0 * 4 = 0 from rfl] at hx135_3); (try rw [Addr.add_zero'] at hx135_3); have HR135_1 := Aside0.mk hi135_1; have HC135_1 := Aside0.mk hl135_1; clear hi135_1 hl135_1; have HR135_2 := Aside0.mk hi135_2; have HC135_2 := Aside0.mk hl135_2; clear hi135_2 hl135_2; have HR135_3 := Aside0.mk hi135_3; have HC135_3 := Aside0.mk hl135_3; clear hi135_3 hl135_3; replace p135 := eq_true p135; replace q135 := eq_true q135; have ea_ := Option.some.inj (hx134_1.symm.trans hx135_1); injection ea_ with ea_ en_ ec_; subst ea_; subst ec_; clear en_; have ea_ := Option.some.inj (hx134_2.symm.trans hx135_2); injection ea_ with ea_ en_ ec_; subst ea_; subst ec_; clear en_; have ea_ := Option.some.inj (hx134_3.symm.trans hx135_3); injection ea_ with ea_ en_ ec_; subst ea_; subst ec_; clear en_; have p136 : 0 ≤ (2 : Int) := (by omega); have q136 : 2 < (((rd_T33 t113 0).f1).length : Int) := of_decide_eq_true (by first | (with_reducible assumption) | assumption); obtain ⟨ad136, e136, hx136_0⟩ := Kd.at_string (by repeat (first | (with_reducible exact HR135_1.out) | (with_reducible refine Kd.C_alloc ?_ _) | (with_reducible refine Kd.C_drewN ?_ _) | (with_reducible refine Kd.C_drew ?_) | exact HR135_1.out)) 2 p136 q136; cases e136; (try simp only [show (2 : Int).toNat = 2 from rfl, Nat.reduceMul, Nat.reduceEqDiff, Go.Addr.add, ↓reduceIte] at hx136_0); have qi136 : (2 < ((rd_T33 t113 0).f1).length) = True := eq_true (by omega); (try rw [show ((2 : Int)).toNat = 2 from rfl] at hx136_0); replace p136 := eq_true p136; replace q136 := eq_true q136; obtain ⟨Ao42, co42, eo42⟩ := Kd.N_slice HO128.out; subst eo42; have p137 : 0 ≤ (0 : Int) := (by omega); have q137 : 0 < (t126.length : Int) := of_decide_eq_true (by first | (with_reducible assumption) | assumption); obtain ⟨ad137, A137_1, c137_1, A137_2, c137_2, A137_3, c137_3, e137, hx137_0, hx137_1, hx137_2, hx137_3, hl137_1, hi137_1, hl137_2, hi137_2, hl137_3, hi137_3⟩ := at_T33 (Kd.N_reads' HO128.out).2.2 0 p137 q137; (try rw [← Nbq14.out] at hx137_0); cases e137; obtain ⟨ce137, hce137, hMe137, hcc137⟩ := Kd.N_get HO128.out z33 0 p137 (by first | exact q137 | exact of_decide_eq_true (by first | (with_reducible assumption) | assumption) | (have e_ := (Kd.N_reads' HO128.out).1; omega)); obtain ⟨ua137_1, uc137_1, ua137_2, uc137_2, ua137_3, uc137_3, rfl, ul137_1, ge137_1, ul137_2, ge137_2, ul137_3, ge137_3⟩ := k33_openF hMe137; have hv137_1 := hcc137 1 _ rfl; rw [add_field _ _ 1 (by omega)] at hv137_1; replace hv137_1 := Option.some.inj (hv137_1.symm.trans hx137_1); injection hv137_1 with hva_ hvn_ hvc_; rw [hva_] at ge137_1; rw [hvc_] at ul137_1; have HL137_1 := Aside0.mk (show Kd.V Kd.string 9 _ w.heap.size _ _ ((rd_T33 t126 0).f1) from Kd.V_mk ul137_1 ge137_1); clear hva_ hvn_ hvc_ ge137_1 ul137_1; have hv137_2 := hcc137 2 _ rfl; rw [add_field _ _ 2 (by omega)] at hv137_2; replace hv137_2 := Option.some.inj (hv137_2.symm.trans hx137_2); injection hv137_2 with hva_ hvn_ hvc_; rw [hva_] at ge137_2; rw [hvc_] at ul137_2; have HL137_2 := Aside0.mk (show Kd.V Kd.string 9 _ w.heap.size _ _ ((rd_T33 t126 0).f2) from Kd.V_mk ul137_2 ge137_2); clear hva_ hvn_ hvc_ ge137_2 ul137_2; have hv137_3 := hcc137 3 _ rfl; rw [add_field _ _ 3 (by omega)] at hv137_3; replace hv137_3 := Option.some.inj (hv137_3.symm.trans hx137_3); injection hv137_3 with hva_ hvn_ hvc_; rw [hva_] at ge137_3; rw [hvc_] at ul137_3; have HL137_3 := Aside0.mk (show Kd.V (Kd.slice 9 Kd.string) 22 _ w.heap.size _ _ ((rd_T33 t126 0).f3) from Kd.V_mk ul137_3 ge137_3); clear hva_ hvn_ hvc_ ge137_3 ul137_3; clear hcc137 hce137; have qi137 : (0 < t126.length) = True := eq_true (by omega); (try rw [show ((0 : Int)).toNat = 0 from rfl] at hx137_0); (try rw [show 0 * 4 = 0 from rfl] at hx137_0); (try rw [Addr.add_zero'] at hx137_0); (try rw [show ((0 : Int)).toNat = 0 from rfl] at hx137_1); (try rw [show 0 * 4 = 0 from rfl] at hx137_1); (try rw [Addr.add_zero'] at hx137_1); (try rw [show ((0 : Int)).toNat = 0 from rfl] at hx137_2); (try rw [show 0 * 4 = 0 from rfl] at hx137_2); (try rw [Addr.add_zero'] at hx137_2); (try rw [show ((0 : Int)).toNat = 0 from rfl] at hx137_3); (try rw [show 0 * 4 = 0 from rfl] at hx137_3); (try rw [Addr.add_zero'] at hx137_3); have HR137_1 := Aside0.mk hi137_1; have HC137_1 := Aside0.mk hl137_1; clear hi137_1 hl137_1; have HR137_2 := Aside0.mk hi137_2; have HC137_2 := Aside0.mk hl137_2; clear hi137_2 hl137_2; have HR137_3 := Aside0.mk hi137_3; have HC137_3 := Aside0.mk hl137_3; clear hi137_3 hl137_3; replace p137 := eq_true p137; replace q137 := eq_true q137; have p138 : 0 ≤ (1 : Int) := (by omega); have q138 : 1 < (t126.length : Int) := of_decide_eq_true (by first | (with_reducible assumption) | assumption); obtain ⟨ad138, A138_1, c138_1, A138_2, c138_2, A138_3, c138_3, e138, hx138_0, hx138_1, hx138_2, hx138_3, hl138_1, hi138_1, hl138_2, hi138_2, hl138_3, hi138_3⟩ := at_T33 (Kd.N_reads' HO128.out).2.2 1 p138 q138; (try rw [← Nbq14.out] at hx138_0); obtain rfl : ad137 = ad138 := (by injection e138); obtain ⟨ce138, hce138, hMe138, hcc138⟩ := Kd.N_get HO128.out z33 1 p138 (by first | exact q138 | exact of_decide_eq_true (by first | (with_reducible assumption) | assumption) | (have e_ := (Kd.N_reads' HO128.out).1; omega)); obtain ⟨ua138_1, uc138_1, ua138_2, uc138_2, ua138_3, uc138_3, rfl, ul138_1, ge138_1, ul138_2, ge138_2, ul138_3, ge138_3⟩ := k33_openF hMe138; have hv138_1 := hcc138 1 _ rfl; rw [add_field _ _ 1 (by omega)] at hv138_1; replace hv138_1 := Option.some.inj (hv138_1.symm.trans hx138_1); injection hv138_1 with hva_ hvn_ hvc_; rw [hva_] at ge138_1; rw [hvc_] at ul138_1; have HL138_1 := Aside0.mk (show Kd.V Kd.string 9 _ w.heap.size _ _ ((rd_T33 t126 1).f1) from Kd.V_mk ul138_1 ge138_1); clear hva_ hvn_ hvc_ ge138_1 ul138_1; have hv138_2 := hcc138 2 _ rfl; rw [add_field _ _ 2 (by omega)] at hv138_2; replace hv138_2 := Option.some.inj (hv138_2.symm.trans hx138_2); injection hv138_2 with hva_ hvn_ hvc_; rw [hva_] at ge138_2; rw [hvc_] at ul138_2; have HL138_2 := Aside0.mk (show Kd.V Kd.string 9 _ w.heap.size _ _ ((rd_T33 t126 1).f2) from Kd.V_mk ul138_2 ge138_2); clear hva_ hvn_ hvc_ ge138_2 ul138_2; have hv138_3 := hcc138 3 _ rfl; rw [add_field _ _ 3 (by omega)] at hv138_3; replace hv138_3 := Option.some.inj (hv138_3.symm.trans hx138_3); injection hv138_3 with hva_ hvn_ hvc_; rw [hva_] at ge138_3; rw [hvc_] at ul138_3; have HL138_3 := Aside0.mk (show Kd.V (Kd.slice 9 Kd.string) 22 _ w.heap.size _ _ ((rd_T33 t126 1).f3) from Kd.V_mk ul138_3 ge138_3); clear hva_ hvn_ hvc_ ge138_3 ul138_3; clear hcc138 hce138; (try simp only [show (1 : Int).toNat = 1 from rfl, Nat.reduceMul, Nat.reduceEqDiff, Go.Addr.add, ↓reduceIte] at hx138_0); (try simp only [show (1 : Int).toNat = 1 from rfl, Nat.reduceMul, Nat.reduceEqDiff, Go.Addr.add, ↓reduceIte] at hx138_1); (try simp only [show (1 : Int).toNat = 1 from rfl, Nat.reduceMul, Nat.reduceEqDiff, Go.Addr.add, ↓reduceIte] at hx138_2); (try simp only [show (1 : Int).toNat = 1 from rfl, Nat.reduceMul, Nat.reduceEqDiff, Go.Addr.add, ↓reduceIte] at hx138_3); have qi138 : (1 < t126.length) = True := eq_true (by omega); (try rw [show ((1 : Int)).toNat = 1 from rfl] at hx138_0); (try rw [show 1 * 4 = 4 from rfl] at hx138_0); (try rw [show ((1 : Int)).toNat = 1 from rfl] at hx138_1); (try rw [show 1 * 4 = 4 from rfl] at hx138_1); (try rw [show ((1 : Int)).toNat = 1 from rfl] at hx138_2); (try rw [show 1 * 4 = 4 from rfl] at hx138_2); (try rw [show ((1 : Int)).toNat = 1 from rfl] at hx138_3); (try rw [show 1 * 4 = 4 from rfl] at hx138_3); have HR138_1 := Aside0.mk hi138_1; have HC138_1 := Aside0.mk hl138_1; clear hi138_1 hl138_1; have HR138_2 := Aside0.mk hi138_2; have HC138_2 := Aside0.mk hl138_2; clear hi138_2 hl138_2; have HR138_3 := Aside0.mk hi138_3; have HC138_3 := Aside0.mk hl138_3; clear hi138_3 hl138_3; replace p138 := eq_true p138; replace q138 := eq_true q138))
                          go_ret
                          exact ⟨by first | rfl | (simp [errW_none, errW_some] <;> rfl) | (simp [*, errW_none, errW_some] <;> rfl), by repeat (first | (with_reducible first | exact HB.out | apply below_alloc | apply pw_below_drewN | apply below_drew1) | exact HB.out)⟩
                        · rw [if_neg c16] at H
                          exact absurd H (by simp)
                      · replace c15 := Bool.eq_false_iff.mpr c15
                        subst c15
                        have H1 : (some false) = some r := by rw [if_neg (show ¬ (false = true) by decide)] at H; exact H
                        clear H
                        have H := H1
                        clear H1
                        exact absurd (Option.some.inj H) (by rw [hrt_]; decide)
                    · rw [if_neg c13] at H
                      exact absurd H (by simp)
                  · rw [if_neg c12] at H
                    have c12b0 : ((t126.length : Int) == 2) = false := beq_eq_false_iff_ne.mpr c12
                    have c12b1 : ((t126.length : Int) != 2) = true := bne_iff_ne.mpr c12
                    exact absurd (Option.some.inj H) (by rw [hrt_]; decide)
                · rw [if_neg c11] at H
                  have c11b0 : ((rdOf ByteArray.empty ((rd_T33 t113 0).f1) 2).toList == ([121, 10] : List UInt8)) = false := beq_eq_false_iff_ne.mpr c11
                  have c11b1 : ((rdOf ByteArray.empty ((rd_T33 t113 0).f1) 2).toList != ([121, 10] : List UInt8)) = true := bne_iff_ne.mpr c11
                  exact absurd (Option.some.inj H) (by rw [hrt_]; decide)
              · rw [if_neg c10] at H
                exact absurd H (by simp)
            · rw [if_neg c9] at H
              have c9b0 : ((((rd_T33 t113 0).f1).length : Int) == 3) = false := beq_eq_false_iff_ne.mpr c9
              have c9b1 : ((((rd_T33 t113 0).f1).length : Int) != 3) = true := bne_iff_ne.mpr c9
              exact absurd (Option.some.inj H) (by rw [hrt_]; decide)
          · rw [if_neg c8] at H
            exact absurd H (by simp)
        · rw [if_neg c7] at H
          have c7b0 : ((t113.length : Int) == 1) = false := beq_eq_false_iff_ne.mpr c7
          have c7b1 : ((t113.length : Int) != 1) = true := bne_iff_ne.mpr c7
          exact absurd (Option.some.inj H) (by rw [hrt_]; decide)
      · rw [if_neg c6] at H
        have c6b0 : (t133 == 1) = false := beq_eq_false_iff_ne.mpr c6
        have c6b1 : (t133 != 1) = true := bne_iff_ne.mpr c6
        exact absurd (Option.some.inj H) (by rw [hrt_]; decide)
    · rw [if_neg c5] at H
      have c5b0 : (t129 == 0) = false := beq_eq_false_iff_ne.mpr c5
      have c5b1 : (t129 != 0) = true := bne_iff_ne.mpr c5
      exact absurd (Option.some.inj H) (by rw [hrt_]; decide)
  · rw [if_neg c4] at H
    have c4b0 : (t116 == 0) = false := beq_eq_false_iff_ne.mpr c4
    have c4b1 : (t116 != 0) = true := bne_iff_ne.mpr c4
    exact absurd (Option.some.inj H) (by rw [hrt_]; decide)
end Go.Proofs.Ytbbhdbeaikclcaa.X
-- part XLn1
namespace Go.Proofs.Ytbbhdbeaikclcaa.X
open Go.RowKit Go.Proofs.YtbbhdbeaikclcaaW.PrintWords Go.Proofs.YtbbhdbeaikclcaaW.PrintLast Go.Proofs.YtbbhdbeaikclcaaW.PrintMore
attribute [local go_sem] max2_int min2_int max_two min_two max_three min_three max_four min_four   -- for this text's walks alone
set_option linter.unusedVariables false
set_option linter.unusedSimpArgs false
def sennitlaw08_MergeCarries.l0 : Nat → List ByteArray → List (List ByteArray) → Bool → List (S33) → Int → Int → Option (Bool)
  | 0, _, _, _, _, _, _ => none
  | k + 1, x0, x1, x5, x6, x8, x9 => if x9 < (x6.length : Int) then (if 0 ≤ x9 then (if ((rd_T33 x6 x9).f0 = true) then (if (((rd_T33 x6 x9).f3).length : Int) = (x1.length : Int) then ((sennitref06_Kind.f k ((rd_T33 x6 x9).f2) ((rd_T33 x6 x9).f3)).bind fun t112 => (if t112 < 2 then (some false) else (sennitlaw08_MergeCarries.l0 k x0 x1 x5 x6 (wrap64 (x8 + (((rd_T33 x6 x9).f2).length : Int))) (wrap64 (x9 + 1))))) else (some false)) else (sennitlaw08_MergeCarries.l0 k x0 x1 x5 x6 x8 (wrap64 (x9 + 1)))) else (none)) else (if x5 = true then (some (decide (x8 ≤ (x0.length : Int)))) else (some false))
def sennitlaw08_MergeCarries.f (k : Nat) (l0 : List ByteArray) (l1 : List (List ByteArray)) : Option (Bool) := (sennitlaw08_awake.f).bind fun t101 => ((sennitref08_May.f k l0 l1).bind fun t102 => (if t102 = true then ((merge_Merge.f l0 l1 0 false).bind fun bt103 => (sennitlaw08_MergeCarries.l0 k l0 l1 t101 bt103.1 0 0)) else (some t101)))
def sennitlaw08_MergeCarries.T11 : Bool × List (List Nat × List Nat) := (true, [([], []), ([], []), ([0, 1], [0, 1]), ([2], [2]), ([3], [3]), ([4], [4]), ([], []), ([6], [6]), ([5, 7], [5, 7]), ([8], [8]), ([9], [9]), ([9], [9]), ([10, 11, 9], [9, 10, 11]), ([12, 9], [9, 12]), ([13, 9], [9, 13]), ([9], [9]), ([9], [9]), ([15, 16, 9], [9, 15, 16]), ([17, 9], [9, 17]), ([18, 9], [9, 18]), ([14, 19, 9, 9], [9, 14, 19]), ([20, 9], [9, 20]), ([9, 21], [9, 21])])
def sennitlaw08_MergeCarries.B11 : List Nat := [0, 0, 3, 7, 15, 31, 0, 64, 255, 511, 1023, 1023, 4095, 8191, 16383, 1023, 1023, 99327, 230399, 492543, 1048575, 2097151, 4194303]
theorem sennitlaw08_MergeCarries.tab11 : rtab .any (opsOf Try.f3 11) = sennitlaw08_MergeCarries.T11 := by kernel_rfl
theorem sennitlaw08_MergeCarries.bits11 : waitsOk sennitlaw08_MergeCarries.T11.2 sennitlaw08_MergeCarries.B11 = true := by kernel_rfl
set_option maxHeartbeats 8000000 in
set_option maxRecDepth 100000 in
theorem sennitlaw08_MergeCarries.calls (k : Nat) (A0 : Option Addr) (c0 : Nat) (l0 : List ByteArray) (A1 : Option Addr) (c1 : Nat) (l1 : List (List ByteArray)) (r : Bool) (w : World) (hr0 : Kd.C Kd.string w A0 l0.length l0) (hc0 : l0.length ≤ c0) (hr1 : Kd.C (Kd.slice 9 Kd.string) w A1 l1.length l1) (hc1 : l1.length ≤ c1) (h : sennitlaw08_MergeCarries.f k l0 l1 = some r) :
    Calls Try.prog 3 #[.slice A0 l0.length c0, .slice A1 l1.length c1] w fun e w' => e = .returned (.bool r) ∧ Below w.heap.size w w' := by
  have hu31 := Try.underlying31
  have HR0 := Aside0.mk hr0
  have HC0 := Aside0.mk hc0
  clear hr0 hc0
  have HR1 := Aside0.mk hr1
  have HC1 := Aside0.mk hc1
  clear hr1 hc1
  have HB := Aside0.mk (Below.refl w.heap.size w)
  have H : ((sennitlaw08_awake.f).bind fun t101 => ((sennitref08_May.f k l0 l1).bind fun t102 => (if t102 = true then ((merge_Merge.f l0 l1 0 false).bind fun bt103 => (sennitlaw08_MergeCarries.l0 k l0 l1 t101 bt103.1 0 0)) else (some t101)))) = some r := h
  clear h
  replace H := Option.bind_eq_some_iff.mp H
  obtain ⟨t101, A30, H⟩ := H
  replace H : ((sennitref08_May.f k l0 l1).bind fun t102 => (if t102 = true then ((merge_Merge.f l0 l1 0 false).bind fun bt103 => (sennitlaw08_MergeCarries.l0 k l0 l1 t101 bt103.1 0 0)) else (some t101))) = some r := H
  have A3 := Aside0.mk A30
  clear A30
  replace H := Option.bind_eq_some_iff.mp H
  obtain ⟨t102, A40, H⟩ := H
  replace H : (if t102 = true then ((merge_Merge.f l0 l1 0 false).bind fun bt103 => (sennitlaw08_MergeCarries.l0 k l0 l1 t101 bt103.1 0 0)) else (some t101)) = some r := H
  have A4 := Aside0.mk A40
  clear A40
  by_cases c5 : t102 = true
  · subst c5
    have H1 : ((merge_Merge.f l0 l1 0 false).bind fun bt103 => (sennitlaw08_MergeCarries.l0 k l0 l1 t101 bt103.1 0 0)) = some r := by rw [if_pos rfl] at H; exact H
    clear H
    have H := H1
    clear H1
    replace H := Option.bind_eq_some_iff.mp H
    obtain ⟨⟨t103, t106⟩, A60, H⟩ := H
    replace H : (sennitlaw08_MergeCarries.l0 k l0 l1 t101 t103 0 0) = some r := H
    have A6 := Aside0.mk A60
    clear A60
    have H' := Aside0.mk H
    clear H
    go_enter Try.func3, Try.ntmps3
    go_wp2_with (first | ((with_reducible refine gate_callee (f := 4) rfl ?_); refine goesL_ (some 10) rfl rfl Try.func4 (by kernel_rfl) rfl #[] rfl (by (try simp only [List.map_toArray, List.map_cons, List.map_nil]); first | done | rfl | (simp only [List.length_drop, List.length_take]; rfl)) ?_; (with_reducible refine (sennitlaw08_awake.calls  t101 _ A3.out).mono ?_); rintro e w7 ⟨rfl, hb⟩; refine ⟨_, rfl, ?_⟩; have n0_ := Aside0.mk (below_step (by repeat (first | (with_reducible first | exact HB.out | apply below_alloc | apply pw_below_drewN | apply below_drew1) | exact HB.out)) hb); clear HB; have HB := n0_; clear n0_; (try clear hb); (try clear hb2); (try clear hk); (try clear hi)) | ((with_reducible refine gate_callee (f := 5) rfl ?_); refine goesL_ (some 13) rfl rfl Try.func5 (by kernel_rfl) rfl #[.slice A0 l0.length c0, .slice A1 l1.length c1] rfl (by (try simp only [List.map_toArray, List.map_cons, List.map_nil]); first | done | rfl | (simp only [List.length_drop, List.length_take]; rfl)) ?_; (with_reducible refine (sennitref08_May.calls k _ _ l0 _ _ l1 true _ ?side1 ?side2 ?side3 ?side4 A4.out).mono ?_); (case side1 => repeat (first | exact (Kd.C_below HR0.out HB.out) | (with_reducible refine Kd.C_alloc ?_ _) | (with_reducible refine Kd.C_drewN ?_ _) | (with_reducible refine Kd.C_drew ?_))); (case side2 => exact HC0.out); (case side3 => repeat (first | exact (Kd.C_below HR1.out HB.out) | (with_reducible refine Kd.C_alloc ?_ _) | (with_reducible refine Kd.C_drewN ?_ _) | (with_reducible refine Kd.C_drew ?_))); (case side4 => exact HC1.out); rintro e w' ⟨rfl, ⟨nd, rfl⟩⟩; refine ⟨_, rfl, ?_⟩) | ((with_reducible refine gate_callee (f := 6) rfl ?_); refine goesL_ (some 20) rfl rfl Try.func6 (by kernel_rfl) rfl #[.slice A0 l0.length c0, .slice A1 l1.length c1, .agg #[.int .i64 0, .bool false]] rfl (by (try simp only [List.map_toArray, List.map_cons, List.map_nil]); first | done | rfl | (simp only [List.length_drop, List.length_take]; rfl)) ?_; (with_reducible refine (merge_Merge.calls (fun k_ => k_ < w.heap.size) _ _ l0 (fun k_ => k_ < w.heap.size) _ _ l1 0 false t103 t106 _ ?side1 ?side2 A6.out).mono ?_); (case side1 => exact Kd.V_mk HC0.out (Kd.F_below (Kd.C_F Kd.heap_string HR0.out) (by repeat (first | (with_reducible first | exact HB.out | apply below_alloc | apply pw_below_drewN | apply below_drew1) | exact HB.out)))); (case side2 => exact Kd.V_mk HC1.out (Kd.F_below (Kd.C_F (Kd.heap_slice 9 Kd.heap_string) HR1.out) (by repeat (first | (with_reducible first | exact HB.out | apply below_alloc | apply pw_below_drewN | apply below_drew1) | exact HB.out)))); rintro e w8 ⟨v104, rfl, ho0, hb⟩; refine ⟨_, rfl, ?_⟩; have n0_ := Aside0.mk (Kd.N_lower (Kd.N_mono (ok' := fun k_ => True) ho0 (fun k_ hk_ => trivial)) (below_size (by repeat (first | (with_reducible first | exact HB.out | apply below_alloc | apply pw_below_drewN | apply below_drew1) | exact HB.out)))); have n1_ := Aside0.mk (below_step (by repeat (first | (with_reducible first | exact HB.out | apply below_alloc | apply pw_below_drewN | apply below_drew1) | exact HB.out)) hb); clear HB; have HO105 := n0_; have HB := n1_; clear n0_ n1_; (try clear hb); (try clear hb2); (try clear hk); (try clear hi); (try clear ho0)))
    go_loopg [8, 9] k (fun kq v8 v9 w' => ∃ (x8_1 : Int) (x9_1 : Int), v8 = .int .i64 x8_1 ∧ v9 = .int .i64 x9_1 ∧ Aside0 (sennitlaw08_MergeCarries.l0 kq l0 l1 t101 t103 x8_1 x9_1 = some r) ∧ Aside0 (kq ≤ k) ∧ Aside0 (Kd.N k33 33 w' w.heap.size (fun _ => True) v104 t103) ∧ Aside0 (Below w.heap.size w w'))
    case atStart => exact ⟨(0), (0), (by first | rfl | (simp; done) | (simp [*]; done)), (by first | rfl | (simp; done) | (simp [*]; done)), H', ⟨Nat.le_refl _⟩, ⟨by (with_reducible repeat (first | apply Kd.N_alloc | apply Kd.N_drewN | apply Kd.N_drew)); exact HO105.out⟩, ⟨by repeat (first | (with_reducible first | exact HB.out | apply below_alloc | apply pw_below_drewN | apply below_drew1) | exact HB.out)⟩⟩
    case round =>
      clear H'
      try clear c1
      try clear p2
      try clear c3
      try clear c4
      try clear c5
      try clear c6
      obtain ⟨x8_1, x9_1, rfl, rfl, HA, HK1, HO_6, HB⟩ := hrel
      cases gk with
      | zero => exact absurd HA.out (by simp [sennitlaw08_MergeCarries.l0])
      | succ k1 =>
        have H := HA.out
        clear HA
        simp only [sennitlaw08_MergeCarries.l0] at H
        by_cases c9 : x9_1 < (t103.length : Int)
        · rw [if_pos c9] at H
          have c9b0 : decide (x9_1 < (t103.length : Int)) = true := decide_eq_true c9
          clear c9
          by_cases c10 : 0 ≤ x9_1
          · rw [if_pos c10] at H
            have c10b0 : decide (0 ≤ x9_1) = true := decide_eq_true c10
            clear c10
            obtain ⟨bq11, hbq11⟩ : ∃ b_ : Bool, b_ = ((rd_T33 t103 x9_1).f0) := ⟨_, rfl⟩
            replace H : (if (bq11 = true) then (if (((rd_T33 t103 x9_1).f3).length : Int) = (l1.length : Int) then ((sennitref06_Kind.f k1 ((rd_T33 t103 x9_1).f2) ((rd_T33 t103 x9_1).f3)).bind fun t112 => (if t112 < 2 then (some false) else (sennitlaw08_MergeCarries.l0 k1 l0 l1 t101 t103 (wrap64 (x8_1 + (((rd_T33 t103 x9_1).f2).length : Int))) (wrap64 (x9_1 + 1))))) else (some false)) else (sennitlaw08_MergeCarries.l0 k1 l0 l1 t101 t103 x8_1 (wrap64 (x9_1 + 1)))) = some r := by rw [← hbq11] at H; exact H
            have Nbq11 := Aside0.mk hbq11
            clear hbq11
            by_cases c12 : (bq11 = true)
            · subst c12
              have H1 : (if (((rd_T33 t103 x9_1).f3).length : Int) = (l1.length : Int) then ((sennitref06_Kind.f k1 ((rd_T33 t103 x9_1).f2) ((rd_T33 t103 x9_1).f3)).bind fun t112 => (if t112 < 2 then (some false) else (sennitlaw08_MergeCarries.l0 k1 l0 l1 t101 t103 (wrap64 (x8_1 + (((rd_T33 t103 x9_1).f2).length : Int))) (wrap64 (x9_1 + 1))))) else (some false)) = some r := by rw [if_pos rfl] at H; exact H
              clear H
              have H := H1
              clear H1
              by_cases c13 : (((rd_T33 t103 x9_1).f3).length : Int) = (l1.length : Int)
              · rw [if_pos c13] at H
                have c13b0 : ((((rd_T33 t103 x9_1).f3).length : Int) == (l1.length : Int)) = true := beq_iff_eq.mpr c13
                have c13b1 : ((((rd_T33 t103 x9_1).f3).length : Int) != (l1.length : Int)) = false := bne_eq_false_iff_eq.mpr c13
                have c13b2 : (((rd_T33 t103 x9_1).f3).length == l1.length) = true := by first | simpa using c13 | (simp at c13 ⊢; omega)
                clear c13
                replace H := Option.bind_eq_some_iff.mp H
                obtain ⟨t112, A140, H⟩ := H
                replace H : (if t112 < 2 then (some false) else (sennitlaw08_MergeCarries.l0 k1 l0 l1 t101 t103 (wrap64 (x8_1 + (((rd_T33 t103 x9_1).f2).length : Int))) (wrap64 (x9_1 + 1)))) = some r := H
                have A14 := Aside0.mk A140
                clear A140
                by_cases c15 : t112 < 2
                · rw [if_pos c15] at H
                  have c15b0 : decide (t112 < 2) = true := decide_eq_true c15
                  clear c15
                  obtain rfl := Option.some.inj H
                  obtain ⟨Ao16, co16, eo16⟩ := Kd.N_slice HO_6.out
                  subst eo16
                  have p107 : 0 ≤ (x9_1 : Int) := of_decide_eq_true (by first | (with_reducible assumption) | assumption)
                  have q107 : x9_1 < (t103.length : Int) := of_decide_eq_true (by first | (with_reducible assumption) | assumption)
                  obtain ⟨ad107, A107_1, c107_1, A107_2, c107_2, A107_3, c107_3, e107, hx107_0, hx107_1, hx107_2, hx107_3, hl107_1, hi107_1, hl107_2, hi107_2, hl107_3, hi107_3⟩ := at_T33 (Kd.N_reads' HO_6.out).2.2 x9_1 p107 q107
                  (try rw [← Nbq11.out] at hx107_0)
                  cases e107
                  obtain ⟨ce107, hce107, hMe107, hcc107⟩ := Kd.N_get HO_6.out z33 x9_1 p107 (by first | exact q107 | exact of_decide_eq_true (by first | (with_reducible assumption) | assumption) | (have e_ := (Kd.N_reads' HO_6.out).1; omega))
                  obtain ⟨ua107_1, uc107_1, ua107_2, uc107_2, ua107_3, uc107_3, rfl, ul107_1, ge107_1, ul107_2, ge107_2, ul107_3, ge107_3⟩ := k33_openF hMe107
                  have hv107_1 := hcc107 1 _ rfl
                  rw [add_field _ _ 1 (by omega)] at hv107_1
                  replace hv107_1 := Option.some.inj (hv107_1.symm.trans hx107_1)
                  injection hv107_1 with hva_ hvn_ hvc_
                  rw [hva_] at ge107_1
                  rw [hvc_] at ul107_1
                  have HL107_1 := Aside0.mk (show Kd.V Kd.string 9 _ w.heap.size _ _ ((rd_T33 t103 x9_1).f1) from Kd.V_mk ul107_1 ge107_1)
                  clear hva_ hvn_ hvc_ ge107_1 ul107_1
                  have hv107_2 := hcc107 2 _ rfl
                  rw [add_field _ _ 2 (by omega)] at hv107_2
                  replace hv107_2 := Option.some.inj (hv107_2.symm.trans hx107_2)
                  injection hv107_2 with hva_ hvn_ hvc_
                  rw [hva_] at ge107_2
                  rw [hvc_] at ul107_2
                  have HL107_2 := Aside0.mk (show Kd.V Kd.string 9 _ w.heap.size _ _ ((rd_T33 t103 x9_1).f2) from Kd.V_mk ul107_2 ge107_2)
                  clear hva_ hvn_ hvc_ ge107_2 ul107_2
                  have hv107_3 := hcc107 3 _ rfl
                  rw [add_field _ _ 3 (by omega)] at hv107_3
                  replace hv107_3 := Option.some.inj (hv107_3.symm.trans hx107_3)
                  injection hv107_3 with hva_ hvn_ hvc_
                  rw [hva_] at ge107_3
                  rw [hvc_] at ul107_3
                  have HL107_3 := Aside0.mk (show Kd.V (Kd.slice 9 Kd.string) 22 _ w.heap.size _ _ ((rd_T33 t103 x9_1).f3) from Kd.V_mk ul107_3 ge107_3)
                  clear hva_ hvn_ hvc_ ge107_3 ul107_3
                  clear hcc107 hce107
                  have HR107_1 := Aside0.mk hi107_1
                  have HC107_1 := Aside0.mk hl107_1
                  clear hi107_1 hl107_1
                  have HR107_2 := Aside0.mk hi107_2
                  have HC107_2 := Aside0.mk hl107_2
                  clear hi107_2 hl107_2
                  have HR107_3 := Aside0.mk hi107_3
                  have HC107_3 := Aside0.mk hl107_3
                  clear hi107_3 hl107_3
                  replace p107 := eq_true p107
                  replace q107 := eq_true q107
                  have p108 : 0 ≤ (x9_1 : Int) := of_decide_eq_true (by first | (with_reducible assumption) | assumption)
                  have q108 : x9_1 < (t103.length : Int) := of_decide_eq_true (by first | (with_reducible assumption) | assumption)
                  obtain ⟨ad108, A108_1, c108_1, A108_2, c108_2, A108_3, c108_3, e108, hx108_0, hx108_1, hx108_2, hx108_3, hl108_1, hi108_1, hl108_2, hi108_2, hl108_3, hi108_3⟩ := at_T33 (Kd.N_reads' HO_6.out).2.2 x9_1 p108 q108
                  (try rw [← Nbq11.out] at hx108_0)
                  obtain rfl : ad107 = ad108 := (by injection e108)
                  obtain ⟨ce108, hce108, hMe108, hcc108⟩ := Kd.N_get HO_6.out z33 x9_1 p108 (by first | exact q108 | exact of_decide_eq_true (by first | (with_reducible assumption) | assumption) | (have e_ := (Kd.N_reads' HO_6.out).1; omega))
                  obtain ⟨ua108_1, uc108_1, ua108_2, uc108_2, ua108_3, uc108_3, rfl, ul108_1, ge108_1, ul108_2, ge108_2, ul108_3, ge108_3⟩ := k33_openF hMe108
                  have hv108_1 := hcc108 1 _ rfl
                  rw [add_field _ _ 1 (by omega)] at hv108_1
                  replace hv108_1 := Option.some.inj (hv108_1.symm.trans hx108_1)
                  injection hv108_1 with hva_ hvn_ hvc_
                  rw [hva_] at ge108_1
                  rw [hvc_] at ul108_1
                  have HL108_1 := Aside0.mk (show Kd.V Kd.string 9 _ w.heap.size _ _ ((rd_T33 t103 x9_1).f1) from Kd.V_mk ul108_1 ge108_1)
                  clear hva_ hvn_ hvc_ ge108_1 ul108_1
                  have hv108_2 := hcc108 2 _ rfl
                  rw [add_field _ _ 2 (by omega)] at hv108_2
                  replace hv108_2 := Option.some.inj (hv108_2.symm.trans hx108_2)
                  injection hv108_2 with hva_ hvn_ hvc_
                  rw [hva_] at ge108_2
                  rw [hvc_] at ul108_2
                  have HL108_2 := Aside0.mk (show Kd.V Kd.string 9 _ w.heap.size _ _ ((rd_T33 t103 x9_1).f2) from Kd.V_mk ul108_2 ge108_2)
                  clear hva_ hvn_ hvc_ ge108_2 ul108_2
                  have hv108_3 := hcc108 3 _ rfl
                  rw [add_field _ _ 3 (by omega)] at hv108_3
                  replace hv108_3 := Option.some.inj (hv108_3.symm.trans hx108_3)
                  injection hv108_3 with hva_ hvn_ hvc_
                  rw [hva_] at ge108_3
                  rw [hvc_] at ul108_3
                  have HL108_3 := Aside0.mk (show Kd.V (Kd.slice 9 Kd.string) 22 _ w.heap.size _ _ ((rd_T33 t103 x9_1).f3) from Kd.V_mk ul108_3 ge108_3)
                  clear hva_ hvn_ hvc_ ge108_3 ul108_3
                  clear hcc108 hce108
                  have HR108_1 := Aside0.mk hi108_1
                  have HC108_1 := Aside0.mk hl108_1
                  clear hi108_1 hl108_1
                  have HR108_2 := Aside0.mk hi108_2
                  have HC108_2 := Aside0.mk hl108_2
                  clear hi108_2 hl108_2
                  have HR108_3 := Aside0.mk hi108_3
                  have HC108_3 := Aside0.mk hl108_3
                  clear hi108_3 hl108_3
                  replace p108 := eq_true p108
                  replace q108 := eq_true q108
                  have ea_ := Option.some.inj (hx107_1.symm.trans hx108_1)
                  injection ea_ with ea_ en_ ec_
                  subst ea_
                  subst ec_
                  clear en_
                  have ea_ := Option.some.inj (hx107_2.symm.trans hx108_2)
                  injection ea_ with ea_ en_ ec_
                  subst ea_
                  subst ec_
                  clear en_
                  have ea_ := Option.some.inj (hx107_3.symm.trans hx108_3)
                  injection ea_ with ea_ en_ ec_
                  subst ea_
                  subst ec_
                  clear en_
                  try go_wp2
                  have n0_ := Aside0.mk (Kd.N_drew HO_6.out)
                  have n1_ := Aside0.mk (Kd.V_drew HL107_1.out)
                  have n2_ := Aside0.mk (Kd.V_drew HL107_2.out)
                  have n3_ := Aside0.mk (Kd.V_drew HL107_3.out)
                  have n4_ := Aside0.mk (Kd.V_drew HL108_1.out)
                  have n5_ := Aside0.mk (Kd.V_drew HL108_2.out)
                  have n6_ := Aside0.mk (Kd.V_drew HL108_3.out)
                  have n7_ := Aside0.mk (Kd.C_drew HR107_1.out)
                  have n8_ := Aside0.mk (Kd.C_drew HR107_2.out)
                  have n9_ := Aside0.mk (Kd.C_drew HR107_3.out)
                  have n10_ := Aside0.mk (Kd.C_drew HR108_1.out)
                  have n11_ := Aside0.mk (Kd.C_drew HR108_2.out)
                  have n12_ := Aside0.mk (Kd.C_drew HR108_3.out)
                  have n13_ := Aside0.mk (below_drew1 HB.out)
                  clear HO_6
                  clear HL107_1
                  clear HL107_2
                  clear HL107_3
                  clear HL108_1
                  clear HL108_2
                  clear HL108_3
                  clear HR107_1
                  clear HR107_2
                  clear HR107_3
                  clear HR108_1
                  clear HR108_2
                  clear HR108_3
                  clear HB
                  have HO_6 := n0_
                  have HL107_1 := n1_
                  have HL107_2 := n2_
                  have HL107_3 := n3_
                  have HL108_1 := n4_
                  have HL108_2 := n5_
                  have HL108_3 := n6_
                  have HR107_1 := n7_
                  have HR107_2 := n8_
                  have HR107_3 := n9_
                  have HR108_1 := n10_
                  have HR108_2 := n11_
                  have HR108_3 := n12_
                  have HB := n13_
                  clear n0_ n1_ n2_ n3_ n4_ n5_ n6_ n7_ n8_ n9_ n10_ n11_ n12_ n13_
                  have p109 : 0 ≤ (x9_1 : Int) := of_decide_eq_true (by first | (with_reducible assumption) | assumption)
                  have q109 : x9_1 < (t103.length : Int) := of_decide_eq_true (by first | (with_reducible assumption) | assumption)
                  obtain ⟨ad109, A109_1, c109_1, A109_2, c109_2, A109_3, c109_3, e109, hx109_0, hx109_1, hx109_2, hx109_3, hl109_1, hi109_1, hl109_2, hi109_2, hl109_3, hi109_3⟩ := at_T33 (Kd.N_reads' HO_6.out).2.2 x9_1 p109 q109
                  (try rw [← Nbq11.out] at hx109_0)
                  obtain rfl : ad107 = ad109 := (by injection e109)
                  obtain ⟨ce109, hce109, hMe109, hcc109⟩ := Kd.N_get HO_6.out z33 x9_1 p109 (by first | exact q109 | exact of_decide_eq_true (by first | (with_reducible assumption) | assumption) | (have e_ := (Kd.N_reads' HO_6.out).1; omega))
                  obtain ⟨ua109_1, uc109_1, ua109_2, uc109_2, ua109_3, uc109_3, rfl, ul109_1, ge109_1, ul109_2, ge109_2, ul109_3, ge109_3⟩ := k33_openF hMe109
                  have hv109_1 := hcc109 1 _ rfl
                  rw [add_field _ _ 1 (by omega)] at hv109_1
                  replace hv109_1 := Option.some.inj (hv109_1.symm.trans hx109_1)
                  injection hv109_1 with hva_ hvn_ hvc_
                  rw [hva_] at ge109_1
                  rw [hvc_] at ul109_1
                  have HL109_1 := Aside0.mk (show Kd.V Kd.string 9 _ w.heap.size _ _ ((rd_T33 t103 x9_1).f1) from Kd.V_mk ul109_1 ge109_1)
                  clear hva_ hvn_ hvc_ ge109_1 ul109_1
                  have hv109_2 := hcc109 2 _ rfl
                  rw [add_field _ _ 2 (by omega)] at hv109_2
                  replace hv109_2 := Option.some.inj (hv109_2.symm.trans hx109_2)
                  injection hv109_2 with hva_ hvn_ hvc_
                  rw [hva_] at ge109_2
                  rw [hvc_] at ul109_2
                  have HL109_2 := Aside0.mk (show Kd.V Kd.string 9 _ w.heap.size _ _ ((rd_T33 t103 x9_1).f2) from Kd.V_mk ul109_2 ge109_2)
                  clear hva_ hvn_ hvc_ ge109_2 ul109_2
                  have hv109_3 := hcc109 3 _ rfl
                  rw [add_field _ _ 3 (by omega)] at hv109_3
                  replace hv109_3 := Option.some.inj (hv109_3.symm.trans hx109_3)
                  injection hv109_3 with hva_ hvn_ hvc_
                  rw [hva_] at ge109_3
                  rw [hvc_] at ul109_3
                  have HL109_3 := Aside0.mk (show Kd.V (Kd.slice 9 Kd.string) 22 _ w.heap.size _ _ ((rd_T33 t103 x9_1).f3) from Kd.V_mk ul109_3 ge109_3)
                  clear hva_ hvn_ hvc_ ge109_3 ul109_3
                  clear hcc109 hce109
                  have HR109_1 := Aside0.mk hi109_1
                  have HC109_1 := Aside0.mk hl109_1
                  clear hi109_1 hl109_1
                  have HR109_2 := Aside0.mk hi109_2
                  have HC109_2 := Aside0.mk hl109_2
                  clear hi109_2 hl109_2
                  have HR109_3 := Aside0.mk hi109_3
                  have HC109_3 := Aside0.mk hl109_3
                  clear hi109_3 hl109_3
                  replace p109 := eq_true p109
                  replace q109 := eq_true q109
                  have p110 : 0 ≤ (x9_1 : Int) := of_decide_eq_true (by first | (with_reducible assumption) | assumption)
                  have q110 : x9_1 < (t103.length : Int) := of_decide_eq_true (by first | (with_reducible assumption) | assumption)
                  obtain ⟨ad110, A110_1, c110_1, A110_2, c110_2, A110_3, c110_3, e110, hx110_0, hx110_1, hx110_2, hx110_3, hl110_1, hi110_1, hl110_2, hi110_2, hl110_3, hi110_3⟩ := at_T33 (Kd.N_reads' HO_6.out).2.2 x9_1 p110 q110
                  (try rw [← Nbq11.out] at hx110_0)
                  obtain rfl : ad107 = ad110 := (by injection e110)
                  obtain ⟨ce110, hce110, hMe110, hcc110⟩ := Kd.N_get HO_6.out z33 x9_1 p110 (by first | exact q110 | exact of_decide_eq_true (by first | (with_reducible assumption) | assumption) | (have e_ := (Kd.N_reads' HO_6.out).1; omega))
                  obtain ⟨ua110_1, uc110_1, ua110_2, uc110_2, ua110_3, uc110_3, rfl, ul110_1, ge110_1, ul110_2, ge110_2, ul110_3, ge110_3⟩ := k33_openF hMe110
                  have hv110_1 := hcc110 1 _ rfl
                  rw [add_field _ _ 1 (by omega)] at hv110_1
                  replace hv110_1 := Option.some.inj (hv110_1.symm.trans hx110_1)
                  injection hv110_1 with hva_ hvn_ hvc_
                  rw [hva_] at ge110_1
                  rw [hvc_] at ul110_1
                  have HL110_1 := Aside0.mk (show Kd.V Kd.string 9 _ w.heap.size _ _ ((rd_T33 t103 x9_1).f1) from Kd.V_mk ul110_1 ge110_1)
                  clear hva_ hvn_ hvc_ ge110_1 ul110_1
                  have hv110_2 := hcc110 2 _ rfl
                  rw [add_field _ _ 2 (by omega)] at hv110_2
                  replace hv110_2 := Option.some.inj (hv110_2.symm.trans hx110_2)
                  injection hv110_2 with hva_ hvn_ hvc_
                  rw [hva_] at ge110_2
                  rw [hvc_] at ul110_2
                  have HL110_2 := Aside0.mk (show Kd.V Kd.string 9 _ w.heap.size _ _ ((rd_T33 t103 x9_1).f2) from Kd.V_mk ul110_2 ge110_2)
                  clear hva_ hvn_ hvc_ ge110_2 ul110_2
                  have hv110_3 := hcc110 3 _ rfl
                  rw [add_field _ _ 3 (by omega)] at hv110_3
                  replace hv110_3 := Option.some.inj (hv110_3.symm.trans hx110_3)
                  injection hv110_3 with hva_ hvn_ hvc_
                  rw [hva_] at ge110_3
                  rw [hvc_] at ul110_3
                  have HL110_3 := Aside0.mk (show Kd.V (Kd.slice 9 Kd.string) 22 _ w.heap.size _ _ ((rd_T33 t103 x9_1).f3) from Kd.V_mk ul110_3 ge110_3)
                  clear hva_ hvn_ hvc_ ge110_3 ul110_3
                  clear hcc110 hce110
                  have HR110_1 := Aside0.mk hi110_1
                  have HC110_1 := Aside0.mk hl110_1
                  clear hi110_1 hl110_1
                  have HR110_2 := Aside0.mk hi110_2
                  have HC110_2 := Aside0.mk hl110_2
                  clear hi110_2 hl110_2
                  have HR110_3 := Aside0.mk hi110_3
                  have HC110_3 := Aside0.mk hl110_3
                  clear hi110_3 hl110_3
                  replace p110 := eq_true p110
                  replace q110 := eq_true q110
                  have ea_ := Option.some.inj (hx109_1.symm.trans hx110_1)
                  injection ea_ with ea_ en_ ec_
                  subst ea_
                  subst ec_
                  clear en_
                  have ea_ := Option.some.inj (hx109_2.symm.trans hx110_2)
                  injection ea_ with ea_ en_ ec_
                  subst ea_
                  subst ec_
                  clear en_
                  have ea_ := Option.some.inj (hx109_3.symm.trans hx110_3)
                  injection ea_ with ea_ en_ ec_
                  subst ea_
                  subst ec_
                  clear en_
                  have p111 : 0 ≤ (x9_1 : Int) := of_decide_eq_true (by first | (with_reducible assumption) | assumption)
                  have q111 : x9_1 < (t103.length : Int) := of_decide_eq_true (by first | (with_reducible assumption) | assumption)
                  obtain ⟨ad111, A111_1, c111_1, A111_2, c111_2, A111_3, c111_3, e111, hx111_0, hx111_1, hx111_2, hx111_3, hl111_1, hi111_1, hl111_2, hi111_2, hl111_3, hi111_3⟩ := at_T33 (Kd.N_reads' HO_6.out).2.2 x9_1 p111 q111
                  (try rw [← Nbq11.out] at hx111_0)
                  obtain rfl : ad107 = ad111 := (by injection e111)
                  obtain ⟨ce111, hce111, hMe111, hcc111⟩ := Kd.N_get HO_6.out z33 x9_1 p111 (by first | exact q111 | exact of_decide_eq_true (by first | (with_reducible assumption) | assumption) | (have e_ := (Kd.N_reads' HO_6.out).1; omega))
                  obtain ⟨ua111_1, uc111_1, ua111_2, uc111_2, ua111_3, uc111_3, rfl, ul111_1, ge111_1, ul111_2, ge111_2, ul111_3, ge111_3⟩ := k33_openF hMe111
                  have hv111_1 := hcc111 1 _ rfl
                  rw [add_field _ _ 1 (by omega)] at hv111_1
                  replace hv111_1 := Option.some.inj (hv111_1.symm.trans hx111_1)
                  injection hv111_1 with hva_ hvn_ hvc_
                  rw [hva_] at ge111_1
                  rw [hvc_] at ul111_1
                  have HL111_1 := Aside0.mk (show Kd.V Kd.string 9 _ w.heap.size _ _ ((rd_T33 t103 x9_1).f1) from Kd.V_mk ul111_1 ge111_1)
                  clear hva_ hvn_ hvc_ ge111_1 ul111_1
                  have hv111_2 := hcc111 2 _ rfl
                  rw [add_field _ _ 2 (by omega)] at hv111_2
                  replace hv111_2 := Option.some.inj (hv111_2.symm.trans hx111_2)
                  injection hv111_2 with hva_ hvn_ hvc_
                  rw [hva_] at ge111_2
                  rw [hvc_] at ul111_2
                  have HL111_2 := Aside0.mk (show Kd.V Kd.string 9 _ w.heap.size _ _ ((rd_T33 t103 x9_1).f2) from Kd.V_mk ul111_2 ge111_2)
                  clear hva_ hvn_ hvc_ ge111_2 ul111_2
                  have hv111_3 := hcc111 3 _ rfl
                  rw [add_field _ _ 3 (by omega)] at hv111_3
                  replace hv111_3 := Option.some.inj (hv111_3.symm.trans hx111_3)
                  injection hv111_3 with hva_ hvn_ hvc_
                  rw [hva_] at ge111_3
                  rw [hvc_] at ul111_3
                  have HL111_3 := Aside0.mk (show Kd.V (Kd.slice 9 Kd.string) 22 _ w.heap.size _ _ ((rd_T33 t103 x9_1).f3) from Kd.V_mk ul111_3 ge111_3)
                  clear hva_ hvn_ hvc_ ge111_3 ul111_3
                  clear hcc111 hce111
                  have HR111_1 := Aside0.mk hi111_1
                  have HC111_1 := Aside0.mk hl111_1
                  clear hi111_1 hl111_1
                  have HR111_2 := Aside0.mk hi111_2
                  have HC111_2 := Aside0.mk hl111_2
                  clear hi111_2 hl111_2
                  have HR111_3 := Aside0.mk hi111_3
                  have HC111_3 := Aside0.mk hl111_3
                  clear hi111_3 hl111_3
                  replace p111 := eq_true p111
                  replace q111 := eq_true q111
                  have ea_ := Option.some.inj (hx109_1.symm.trans hx111_1)
                  injection ea_ with ea_ en_ ec_
                  subst ea_
                  subst ec_
                  clear en_
                  have ea_ := Option.some.inj (hx109_2.symm.trans hx111_2)
                  injection ea_ with ea_ en_ ec_
                  subst ea_
                  subst ec_
                  clear en_
                  have ea_ := Option.some.inj (hx109_3.symm.trans hx111_3)
                  injection ea_ with ea_ en_ ec_
                  subst ea_
                  subst ec_
                  clear en_
                  refine start_ (n := 23) (S := fun w' => w'.cell? (ad107.add ((x9_1).toNat * 4)) = some (.bool (true)) ∧ w'.cell? ⟨(ad107.add ((x9_1).toNat * 4)).block, (ad107.add ((x9_1).toNat * 4)).off + 1, none⟩ = some (.slice A109_1 ((rd_T33 t103 x9_1).f1).length c109_1) ∧ w'.cell? ⟨(ad107.add ((x9_1).toNat * 4)).block, (ad107.add ((x9_1).toNat * 4)).off + 2, none⟩ = some (.slice A109_2 ((rd_T33 t103 x9_1).f2).length c109_2) ∧ w'.cell? ⟨(ad107.add ((x9_1).toNat * 4)).block, (ad107.add ((x9_1).toNat * 4)).off + 3, none⟩ = some (.slice A109_3 ((rd_T33 t103 x9_1).f3).length c109_3) ∧ w'.cell? (ad107.add ((x9_1).toNat * 4)) = some (.bool (true)) ∧ w'.cell? ⟨(ad107.add ((x9_1).toNat * 4)).block, (ad107.add ((x9_1).toNat * 4)).off + 1, none⟩ = some (.slice A109_1 ((rd_T33 t103 x9_1).f1).length c109_1) ∧ w'.cell? ⟨(ad107.add ((x9_1).toNat * 4)).block, (ad107.add ((x9_1).toNat * 4)).off + 2, none⟩ = some (.slice A109_2 ((rd_T33 t103 x9_1).f2).length c109_2) ∧ w'.cell? ⟨(ad107.add ((x9_1).toNat * 4)).block, (ad107.add ((x9_1).toNat * 4)).off + 3, none⟩ = some (.slice A109_3 ((rd_T33 t103 x9_1).f3).length c109_3) ∧ w'.cell? (ad107.add ((x9_1).toNat * 4)) = some (.bool (true)) ∧ w'.cell? ⟨(ad107.add ((x9_1).toNat * 4)).block, (ad107.add ((x9_1).toNat * 4)).off + 1, none⟩ = some (.slice A109_1 ((rd_T33 t103 x9_1).f1).length c109_1) ∧ w'.cell? ⟨(ad107.add ((x9_1).toNat * 4)).block, (ad107.add ((x9_1).toNat * 4)).off + 2, none⟩ = some (.slice A109_2 ((rd_T33 t103 x9_1).f2).length c109_2) ∧ w'.cell? ⟨(ad107.add ((x9_1).toNat * 4)).block, (ad107.add ((x9_1).toNat * 4)).off + 3, none⟩ = some (.slice A109_3 ((rd_T33 t103 x9_1).f3).length c109_3)) (ds := []) #[false, false, false, false, false, false, false, false, false, false, false, false, false, false, false, false, false, false, false, false, false, false, false] (by kernel_rfl) rfl rfl ⟨hx109_0, hx109_1, hx109_2, hx109_3, hx110_0, hx110_1, hx110_2, hx110_3, hx111_0, hx111_1, hx111_2, hx111_3⟩ (fun hHeld => ?_); refine with_tabW sennitlaw08_MergeCarries.tab11 sennitlaw08_MergeCarries.bits11 (fun HT_ HW_ => ?_)
                  generalize wr.drew = w17 at HO_6 HL107_1 HL107_2 HL107_3 HL108_1 HL108_2 HL108_3 HR107_1 HR107_2 HR107_3 HR108_1 HR108_2 HR108_3 HB HL109_1 HL109_2 HL109_3 HL110_1 HL110_2 HL110_3 HL111_1 HL111_2 HL111_3 HR109_1 HR109_2 HR109_3 HR110_1 HR110_2 HR110_3 HR111_1 HR111_2 HR111_3 hx109_0 hx109_1 hx109_2 hx109_3 hx110_0 hx110_1 hx110_2 hx110_3 hx111_0 hx111_1 hx111_2 hx111_3 hHeld ⊢
                  refine pure_ (i := 0) (N := some 43) (v := ?_) (a' := ?_) #[true, false, false, false, false, false, false, false, false, false, false, false, false, false, false, false, false, false, false, false, false, false, false] rfl rfl (any_of HT_.out (by kernel_rfl)) (fun _ _ _ h => h) (Or.inl ⟨by rfl, ?_⟩) ?_ ?_
                  rotate_left
                  · intro w'
                    go_simp
                    with_reducible rfl
                  rotate_left
                  · simp only [Act.put, List.setIfInBounds_toArray, List.set_cons_zero, List.set_cons_succ, i64_w, i32_w]
                    rfl
                  refine pure_ (i := 1) (N := some 44) (v := ?_) (a' := ?_) #[true, true, false, false, false, false, false, false, false, false, false, false, false, false, false, false, false, false, false, false, false, false, false] rfl rfl (any_of HT_.out (by kernel_rfl)) (fun _ _ _ h => h) (Or.inl ⟨by rfl, ?_⟩) ?_ ?_
                  rotate_left
                  · intro w'
                    go_simp
                    with_reducible rfl
                  rotate_left
                  · simp only [Act.put, List.setIfInBounds_toArray, List.set_cons_zero, List.set_cons_succ, i64_w, i32_w]
                    rfl
                  refine pure_ (i := 2) (N := some 45) (v := ?_) (a' := ?_) #[true, true, true, false, false, false, false, false, false, false, false, false, false, false, false, false, false, false, false, false, false, false, false] rfl rfl (any_of HT_.out (by kernel_rfl)) (fun _ _ _ h => h) (Or.inl ⟨by rfl, ?_⟩) ?_ ?_
                  rotate_left
                  · intro w'
                    go_simp
                    with_reducible rfl
                  rotate_left
                  · simp only [Act.put, List.setIfInBounds_toArray, List.set_cons_zero, List.set_cons_succ, i64_w, i32_w]
                    rfl
                  refine pure_ (i := 3) (N := some 46) (v := ?_) (a' := ?_) #[true, true, true, true, false, false, false, false, false, false, false, false, false, false, false, false, false, false, false, false, false, false, false] rfl rfl (any_of HT_.out (by kernel_rfl)) (fun _ _ _ h => h) (Or.inl ⟨by rfl, ?_⟩) ?_ ?_
                  rotate_left
                  · intro w'
                    go_simp
                    with_reducible rfl
                  rotate_left
                  · simp only [Act.put, List.setIfInBounds_toArray, List.set_cons_zero, List.set_cons_succ, i64_w, i32_w]
                    rfl
                  refine pure_ (i := 6) (N := some 49) (v := ?_) (a' := ?_) #[true, true, true, true, false, false, true, false, false, false, false, false, false, false, false, false, false, false, false, false, false, false, false] rfl rfl (any_of HT_.out (by kernel_rfl)) (fun _ _ _ h => h) (Or.inl ⟨by rfl, ?_⟩) ?_ ?_
                  rotate_left
                  · intro w'
                    go_simp
                    with_reducible rfl
                  rotate_left
                  · simp only [Act.put, List.setIfInBounds_toArray, List.set_cons_zero, List.set_cons_succ, i64_w, i32_w]
                    rfl
                  refine pure_ (i := 7) (N := some 50) (v := ?_) (a' := ?_) #[true, true, true, true, false, false, true, true, false, false, false, false, false, false, false, false, false, false, false, false, false, false, false] rfl rfl (any_of HT_.out (by kernel_rfl)) (fun _ _ _ h => h) (Or.inl ⟨by rfl, ?_⟩) ?_ ?_
                  rotate_left
                  · intro w'
                    go_simp
                    with_reducible rfl
                  rotate_left
                  · simp only [Act.put, List.setIfInBounds_toArray, List.set_cons_zero, List.set_cons_succ, i64_w, i32_w]
                    rfl
                  refine take_ (i := 4) (N := some 47) (v := ?_) (a' := ?_) #[true, true, true, true, true, false, true, true, false, false, false, false, false, false, false, false, false, false, false, false, false, false, false] rfl rfl (take_ofW HT_.out HW_.out (by kernel_rfl)) (fun _ _ _ h => h) (Or.inl ⟨by rfl, ?_⟩) hHeld ?_ ?_
                  rotate_left
                  · rintro w' ⟨s0, s1, s2, s3, s4, s5, s6, s7, s8, s9, s10, s11⟩
                    go_simp
                    with_reducible rfl
                  rotate_left
                  · simp only [Act.put, List.setIfInBounds_toArray, List.set_cons_zero, List.set_cons_succ, i64_w, i32_w]
                    rfl
                  refine pure_ (i := 5) (N := some 48) (v := ?_) (a' := ?_) #[true, true, true, true, true, true, true, true, false, false, false, false, false, false, false, false, false, false, false, false, false, false, false] rfl rfl (any_of HT_.out (by kernel_rfl)) (fun _ _ _ h => h) (Or.inl ⟨by rfl, ?_⟩) ?_ ?_
                  rotate_left
                  · intro w'
                    go_simp
                    with_reducible rfl
                  rotate_left
                  · simp only [Act.put, List.setIfInBounds_toArray, List.set_cons_zero, List.set_cons_succ, i64_w, i32_w]
                    rfl
                  refine pure_ (i := 8) (N := some 51) (v := ?_) (a' := ?_) #[true, true, true, true, true, true, true, true, true, false, false, false, false, false, false, false, false, false, false, false, false, false, false] rfl rfl (any_of HT_.out (by kernel_rfl)) (fun _ _ _ h => h) (Or.inl ⟨by rfl, ?_⟩) ?_ ?_
                  rotate_left
                  · intro w'
                    go_simp
                    with_reducible rfl
                  rotate_left
                  · simp only [Act.put, List.setIfInBounds_toArray, List.set_cons_zero, List.set_cons_succ, i64_w, i32_w]
                    rfl
                  refine pure_ (i := 9) (N := some 52) (v := ?_) (a' := ?_) #[true, true, true, true, true, true, true, true, true, true, false, false, false, false, false, false, false, false, false, false, false, false, false] rfl rfl (any_of HT_.out (by kernel_rfl)) (fun _ _ _ h => h) (Or.inl ⟨by rfl, ?_⟩) ?_ ?_
                  rotate_left
                  · intro w'
                    go_simp
                    with_reducible rfl
                  rotate_left
                  · simp only [Act.put, List.setIfInBounds_toArray, List.set_cons_zero, List.set_cons_succ, i64_w, i32_w]
                    rfl
                  refine pure_ (i := 10) (N := some 53) (v := ?_) (a' := ?_) #[true, true, true, true, true, true, true, true, true, true, true, false, false, false, false, false, false, false, false, false, false, false, false] rfl rfl (any_of HT_.out (by kernel_rfl)) (fun _ _ _ h => h) (Or.inl ⟨by rfl, ?_⟩) ?_ ?_
                  rotate_left
                  · intro w'
                    go_simp
                    with_reducible rfl
                  rotate_left
                  · simp only [Act.put, List.setIfInBounds_toArray, List.set_cons_zero, List.set_cons_succ, i64_w, i32_w]
                    rfl
                  refine pure_ (i := 11) (N := some 54) (v := ?_) (a' := ?_) #[true, true, true, true, true, true, true, true, true, true, true, true, false, false, false, false, false, false, false, false, false, false, false] rfl rfl (any_of HT_.out (by kernel_rfl)) (fun _ _ _ h => h) (Or.inl ⟨by rfl, ?_⟩) ?_ ?_
                  rotate_left
                  · intro w'
                    go_simp
                    with_reducible rfl
                  rotate_left
                  · simp only [Act.put, List.setIfInBounds_toArray, List.set_cons_zero, List.set_cons_succ, i64_w, i32_w]
                    rfl
                  refine pure_ (i := 12) (N := some 55) (v := ?_) (a' := ?_) #[true, true, true, true, true, true, true, true, true, true, true, true, true, false, false, false, false, false, false, false, false, false, false] rfl rfl (any_of HT_.out (by kernel_rfl)) (fun _ _ _ h => h) (Or.inl ⟨by rfl, ?_⟩) ?_ ?_
                  rotate_left
                  · intro w'
                    go_simp
                    with_reducible rfl
                  rotate_left
                  · simp only [Act.put, List.setIfInBounds_toArray, List.set_cons_zero, List.set_cons_succ, i64_w, i32_w]
                    rfl
                  refine pure_ (i := 13) (N := some 56) (v := ?_) (a' := ?_) #[true, true, true, true, true, true, true, true, true, true, true, true, true, true, false, false, false, false, false, false, false, false, false] rfl rfl (any_of HT_.out (by kernel_rfl)) (fun _ _ _ h => h) (Or.inl ⟨by rfl, ?_⟩) ?_ ?_
                  rotate_left
                  · intro w'
                    go_simp
                    with_reducible rfl
                  rotate_left
                  · simp only [Act.put, List.setIfInBounds_toArray, List.set_cons_zero, List.set_cons_succ, i64_w, i32_w]
                    rfl
                  refine pure_ (i := 15) (N := some 58) (v := ?_) (a' := ?_) #[true, true, true, true, true, true, true, true, true, true, true, true, true, true, false, true, false, false, false, false, false, false, false] rfl rfl (any_of HT_.out (by kernel_rfl)) (fun _ _ _ h => h) (Or.inl ⟨by rfl, ?_⟩) ?_ ?_
                  rotate_left
                  · intro w'
                    go_simp
                    with_reducible rfl
                  rotate_left
                  · simp only [Act.put, List.setIfInBounds_toArray, List.set_cons_zero, List.set_cons_succ, i64_w, i32_w]
                    rfl
                  refine pure_ (i := 16) (N := some 59) (v := ?_) (a' := ?_) #[true, true, true, true, true, true, true, true, true, true, true, true, true, true, false, true, true, false, false, false, false, false, false] rfl rfl (any_of HT_.out (by kernel_rfl)) (fun _ _ _ h => h) (Or.inl ⟨by rfl, ?_⟩) ?_ ?_
                  rotate_left
                  · intro w'
                    go_simp
                    with_reducible rfl
                  rotate_left
                  · simp only [Act.put, List.setIfInBounds_toArray, List.set_cons_zero, List.set_cons_succ, i64_w, i32_w]
                    rfl
                  refine pure_ (i := 17) (N := some 60) (v := ?_) (a' := ?_) #[true, true, true, true, true, true, true, true, true, true, true, true, true, true, false, true, true, true, false, false, false, false, false] rfl rfl (any_of HT_.out (by kernel_rfl)) (fun _ _ _ h => h) (Or.inl ⟨by rfl, ?_⟩) ?_ ?_
                  rotate_left
                  · intro w'
                    go_simp
                    with_reducible rfl
                  rotate_left
                  · simp only [Act.put, List.setIfInBounds_toArray, List.set_cons_zero, List.set_cons_succ, i64_w, i32_w]
                    rfl
                  refine pure_ (i := 18) (N := some 61) (v := ?_) (a' := ?_) #[true, true, true, true, true, true, true, true, true, true, true, true, true, true, false, true, true, true, true, false, false, false, false] rfl rfl (any_of HT_.out (by kernel_rfl)) (fun _ _ _ h => h) (Or.inl ⟨by rfl, ?_⟩) ?_ ?_
                  rotate_left
                  · intro w'
                    go_simp
                    with_reducible rfl
                  rotate_left
                  · simp only [Act.put, List.setIfInBounds_toArray, List.set_cons_zero, List.set_cons_succ, i64_w, i32_w]
                    rfl
                  refine take_ (i := 14) (N := some 57) (v := ?_) (a' := ?_) #[true, true, true, true, true, true, true, true, true, true, true, true, true, true, true, true, true, true, true, false, false, false, false] rfl rfl (take_ofW HT_.out HW_.out (by kernel_rfl)) (fun _ _ _ h => h) (Or.inl ⟨by rfl, ?_⟩) hHeld ?_ ?_
                  rotate_left
                  · rintro w' ⟨s0, s1, s2, s3, s4, s5, s6, s7, s8, s9, s10, s11⟩
                    go_simp
                    with_reducible rfl
                  rotate_left
                  · simp only [Act.put, List.setIfInBounds_toArray, List.set_cons_zero, List.set_cons_succ, i64_w, i32_w]
                    rfl
                  refine take_ (i := 19) (N := some 62) (v := ?_) (a' := ?_) #[true, true, true, true, true, true, true, true, true, true, true, true, true, true, true, true, true, true, true, true, false, false, false] rfl rfl (take_ofW HT_.out HW_.out (by kernel_rfl)) (fun _ _ _ h => h) (Or.inl ⟨by rfl, ?_⟩) hHeld ?_ ?_
                  rotate_left
                  · rintro w' ⟨s0, s1, s2, s3, s4, s5, s6, s7, s8, s9, s10, s11⟩
                    go_simp
                    with_reducible rfl
                  rotate_left
                  · simp only [Act.put, List.setIfInBounds_toArray, List.set_cons_zero, List.set_cons_succ, i64_w, i32_w]
                    rfl
                  refine one_ (i := 20) (N := some 63) #[true, true, true, true, true, true, true, true, true, true, true, true, true, true, true, true, true, true, true, true, true, false, false] rfl rfl (one_of HT_.out (by kernel_rfl)) (by decide) (fun K hK => ?_)
                  refine goes_ Try.func7 (by kernel_rfl) rfl #[.slice A109_2 ((rd_T33 t103 x9_1).f2).length c109_2, .slice A109_3 ((rd_T33 t103 x9_1).f3).length c109_3] (by rfl) rfl rfl (by (try simp only [List.map_toArray, List.map_cons, List.map_nil]); first | done | rfl | (simp only [List.length_drop, List.length_take]; rfl)) ?_
                  with_reducible refine (sennitref06_Kind.calls k1 _ _ ((rd_T33 t103 x9_1).f2) _ _ ((rd_T33 t103 x9_1).f3) t112 _ ?side1 ?side2 ?side3 ?side4 A14.out).mono ?_
                  (case side1 => repeat (first | exact (by repeat (first | (with_reducible exact HR110_2.out) | (with_reducible refine Kd.C_alloc ?_ _) | (with_reducible refine Kd.C_drewN ?_ _) | (with_reducible refine Kd.C_drew ?_) | exact HR110_2.out)) | (with_reducible refine Kd.C_alloc ?_ _) | (with_reducible refine Kd.C_drewN ?_ _) | (with_reducible refine Kd.C_drew ?_)))
                  (case side2 => exact HC110_2.out)
                  (case side3 => repeat (first | exact (by repeat (first | (with_reducible exact HR111_3.out) | (with_reducible refine Kd.C_alloc ?_ _) | (with_reducible refine Kd.C_drewN ?_ _) | (with_reducible refine Kd.C_drew ?_) | exact HR111_3.out)) | (with_reducible refine Kd.C_alloc ?_ _) | (with_reducible refine Kd.C_drewN ?_ _) | (with_reducible refine Kd.C_drew ?_)))
                  (case side4 => exact HC111_3.out)
                  rintro e w18 ⟨rfl, hb⟩
                  have HS0_ := (hb.cell (World.block_lt_of_cell? _ _ (hHeld.1))).trans (hHeld.1)
                  have HS1_ := (hb.cell (World.block_lt_of_cell? _ _ (hHeld.2.1))).trans (hHeld.2.1)
                  have HS2_ := (hb.cell (World.block_lt_of_cell? _ _ (hHeld.2.2.1))).trans (hHeld.2.2.1)
                  have HS3_ := (hb.cell (World.block_lt_of_cell? _ _ (hHeld.2.2.2.1))).trans (hHeld.2.2.2.1)
                  have HS4_ := (hb.cell (World.block_lt_of_cell? _ _ (hHeld.2.2.2.2.1))).trans (hHeld.2.2.2.2.1)
                  have HS5_ := (hb.cell (World.block_lt_of_cell? _ _ (hHeld.2.2.2.2.2.1))).trans (hHeld.2.2.2.2.2.1)
                  have HS6_ := (hb.cell (World.block_lt_of_cell? _ _ (hHeld.2.2.2.2.2.2.1))).trans (hHeld.2.2.2.2.2.2.1)
                  have HS7_ := (hb.cell (World.block_lt_of_cell? _ _ (hHeld.2.2.2.2.2.2.2.1))).trans (hHeld.2.2.2.2.2.2.2.1)
                  have HS8_ := (hb.cell (World.block_lt_of_cell? _ _ (hHeld.2.2.2.2.2.2.2.2.1))).trans (hHeld.2.2.2.2.2.2.2.2.1)
                  have HS9_ := (hb.cell (World.block_lt_of_cell? _ _ (hHeld.2.2.2.2.2.2.2.2.2.1))).trans (hHeld.2.2.2.2.2.2.2.2.2.1)
                  have HS10_ := (hb.cell (World.block_lt_of_cell? _ _ (hHeld.2.2.2.2.2.2.2.2.2.2.1))).trans (hHeld.2.2.2.2.2.2.2.2.2.2.1)
                  have HS11_ := (hb.cell (World.block_lt_of_cell? _ _ (hHeld.2.2.2.2.2.2.2.2.2.2.2))).trans (hHeld.2.2.2.2.2.2.2.2.2.2.2)
                  refine ⟨_, rfl, ?_⟩
                  have n0_ := Aside0.mk (Kd.N_below (by (with_reducible repeat (first | apply Kd.N_alloc | apply Kd.N_drewN | apply Kd.N_drew)); exact HO_6.out) hb)
                  have n1_ := Aside0.mk (Kd.V_below (by (with_reducible repeat (first | apply Kd.V_alloc | apply Kd.V_drewN | apply Kd.V_drew)); exact HL107_1.out) hb)
                  have n2_ := Aside0.mk (Kd.V_below (by (with_reducible repeat (first | apply Kd.V_alloc | apply Kd.V_drewN | apply Kd.V_drew)); exact HL107_2.out) hb)
                  have n3_ := Aside0.mk (Kd.V_below (by (with_reducible repeat (first | apply Kd.V_alloc | apply Kd.V_drewN | apply Kd.V_drew)); exact HL107_3.out) hb)
                  have n4_ := Aside0.mk (Kd.V_below (by (with_reducible repeat (first | apply Kd.V_alloc | apply Kd.V_drewN | apply Kd.V_drew)); exact HL108_1.out) hb)
                  have n5_ := Aside0.mk (Kd.V_below (by (with_reducible repeat (first | apply Kd.V_alloc | apply Kd.V_drewN | apply Kd.V_drew)); exact HL108_2.out) hb)
                  have n6_ := Aside0.mk (Kd.V_below (by (with_reducible repeat (first | apply Kd.V_alloc | apply Kd.V_drewN | apply Kd.V_drew)); exact HL108_3.out) hb)
                  have n7_ := Aside0.mk (Kd.V_below (by (with_reducible repeat (first | apply Kd.V_alloc | apply Kd.V_drewN | apply Kd.V_drew)); exact HL109_1.out) hb)
                  have n8_ := Aside0.mk (Kd.V_below (by (with_reducible repeat (first | apply Kd.V_alloc | apply Kd.V_drewN | apply Kd.V_drew)); exact HL109_2.out) hb)
                  have n9_ := Aside0.mk (Kd.V_below (by (with_reducible repeat (first | apply Kd.V_alloc | apply Kd.V_drewN | apply Kd.V_drew)); exact HL109_3.out) hb)
                  have n10_ := Aside0.mk (Kd.V_below (by (with_reducible repeat (first | apply Kd.V_alloc | apply Kd.V_drewN | apply Kd.V_drew)); exact HL110_1.out) hb)
                  have n11_ := Aside0.mk (Kd.V_below (by (with_reducible repeat (first | apply Kd.V_alloc | apply Kd.V_drewN | apply Kd.V_drew)); exact HL110_2.out) hb)
                  have n12_ := Aside0.mk (Kd.V_below (by (with_reducible repeat (first | apply Kd.V_alloc | apply Kd.V_drewN | apply Kd.V_drew)); exact HL110_3.out) hb)
                  have n13_ := Aside0.mk (Kd.V_below (by (with_reducible repeat (first | apply Kd.V_alloc | apply Kd.V_drewN | apply Kd.V_drew)); exact HL111_1.out) hb)
                  have n14_ := Aside0.mk (Kd.V_below (by (with_reducible repeat (first | apply Kd.V_alloc | apply Kd.V_drewN | apply Kd.V_drew)); exact HL111_2.out) hb)
                  have n15_ := Aside0.mk (Kd.V_below (by (with_reducible repeat (first | apply Kd.V_alloc | apply Kd.V_drewN | apply Kd.V_drew)); exact HL111_3.out) hb)
                  have n16_ := Aside0.mk (Kd.C_below (by repeat (first | (with_reducible exact HR107_1.out) | (with_reducible refine Kd.C_alloc ?_ _) | (with_reducible refine Kd.C_drewN ?_ _) | (with_reducible refine Kd.C_drew ?_) | exact HR107_1.out)) hb)
                  have n17_ := Aside0.mk (Kd.C_below (by repeat (first | (with_reducible exact HR107_2.out) | (with_reducible refine Kd.C_alloc ?_ _) | (with_reducible refine Kd.C_drewN ?_ _) | (with_reducible refine Kd.C_drew ?_) | exact HR107_2.out)) hb)
                  have n18_ := Aside0.mk (Kd.C_below (by repeat (first | (with_reducible exact HR107_3.out) | (with_reducible refine Kd.C_alloc ?_ _) | (with_reducible refine Kd.C_drewN ?_ _) | (with_reducible refine Kd.C_drew ?_) | exact HR107_3.out)) hb)
                  have n19_ := Aside0.mk (Kd.C_below (by repeat (first | (with_reducible exact HR108_1.out) | (with_reducible refine Kd.C_alloc ?_ _) | (with_reducible refine Kd.C_drewN ?_ _) | (with_reducible refine Kd.C_drew ?_) | exact HR108_1.out)) hb)
                  have n20_ := Aside0.mk (Kd.C_below (by repeat (first | (with_reducible exact HR108_2.out) | (with_reducible refine Kd.C_alloc ?_ _) | (with_reducible refine Kd.C_drewN ?_ _) | (with_reducible refine Kd.C_drew ?_) | exact HR108_2.out)) hb)
                  have n21_ := Aside0.mk (Kd.C_below (by repeat (first | (with_reducible exact HR108_3.out) | (with_reducible refine Kd.C_alloc ?_ _) | (with_reducible refine Kd.C_drewN ?_ _) | (with_reducible refine Kd.C_drew ?_) | exact HR108_3.out)) hb)
                  have n22_ := Aside0.mk (Kd.C_below (by repeat (first | (with_reducible exact HR109_1.out) | (with_reducible refine Kd.C_alloc ?_ _) | (with_reducible refine Kd.C_drewN ?_ _) | (with_reducible refine Kd.C_drew ?_) | exact HR109_1.out)) hb)
                  have n23_ := Aside0.mk (Kd.C_below (by repeat (first | (with_reducible exact HR109_2.out) | (with_reducible refine Kd.C_alloc ?_ _) | (with_reducible refine Kd.C_drewN ?_ _) | (with_reducible refine Kd.C_drew ?_) | exact HR109_2.out)) hb)
                  have n24_ := Aside0.mk (Kd.C_below (by repeat (first | (with_reducible exact HR109_3.out) | (with_reducible refine Kd.C_alloc ?_ _) | (with_reducible refine Kd.C_drewN ?_ _) | (with_reducible refine Kd.C_drew ?_) | exact HR109_3.out)) hb)
                  have n25_ := Aside0.mk (Kd.C_below (by repeat (first | (with_reducible exact HR110_1.out) | (with_reducible refine Kd.C_alloc ?_ _) | (with_reducible refine Kd.C_drewN ?_ _) | (with_reducible refine Kd.C_drew ?_) | exact HR110_1.out)) hb)
                  have n26_ := Aside0.mk (Kd.C_below (by repeat (first | (with_reducible exact HR110_2.out) | (with_reducible refine Kd.C_alloc ?_ _) | (with_reducible refine Kd.C_drewN ?_ _) | (with_reducible refine Kd.C_drew ?_) | exact HR110_2.out)) hb)
                  have n27_ := Aside0.mk (Kd.C_below (by repeat (first | (with_reducible exact HR110_3.out) | (with_reducible refine Kd.C_alloc ?_ _) | (with_reducible refine Kd.C_drewN ?_ _) | (with_reducible refine Kd.C_drew ?_) | exact HR110_3.out)) hb)
                  have n28_ := Aside0.mk (Kd.C_below (by repeat (first | (with_reducible exact HR111_1.out) | (with_reducible refine Kd.C_alloc ?_ _) | (with_reducible refine Kd.C_drewN ?_ _) | (with_reducible refine Kd.C_drew ?_) | exact HR111_1.out)) hb)
                  have n29_ := Aside0.mk (Kd.C_below (by repeat (first | (with_reducible exact HR111_2.out) | (with_reducible refine Kd.C_alloc ?_ _) | (with_reducible refine Kd.C_drewN ?_ _) | (with_reducible refine Kd.C_drew ?_) | exact HR111_2.out)) hb)
                  have n30_ := Aside0.mk (Kd.C_below (by repeat (first | (with_reducible exact HR111_3.out) | (with_reducible refine Kd.C_alloc ?_ _) | (with_reducible refine Kd.C_drewN ?_ _) | (with_reducible refine Kd.C_drew ?_) | exact HR111_3.out)) hb)
                  have n31_ := Aside0.mk (below_step (by repeat (first | (with_reducible first | exact HB.out | apply below_alloc | apply pw_below_drewN | apply below_drew1) | exact HB.out)) hb)
                  clear HO_6
                  clear HL107_1
                  clear HL107_2
                  clear HL107_3
                  clear HL108_1
                  clear HL108_2
                  clear HL108_3
                  clear HL109_1
                  clear HL109_2
                  clear HL109_3
                  clear HL110_1
                  clear HL110_2
                  clear HL110_3
                  clear HL111_1
                  clear HL111_2
                  clear HL111_3
                  clear HR107_1
                  clear HR107_2
                  clear HR107_3
                  clear HR108_1
                  clear HR108_2
                  clear HR108_3
                  clear HR109_1
                  clear HR109_2
                  clear HR109_3
                  clear HR110_1
                  clear HR110_2
                  clear HR110_3
                  clear HR111_1
                  clear HR111_2
                  clear HR111_3
                  clear HB
                  have HO_6 := n0_
                  have HL107_1 := n1_
                  have HL107_2 := n2_
                  have HL107_3 := n3_
                  have HL108_1 := n4_
                  have HL108_2 := n5_
                  have HL108_3 := n6_
                  have HL109_1 := n7_
                  have HL109_2 := n8_
                  have HL109_3 := n9_
                  have HL110_1 := n10_
                  have HL110_2 := n11_
                  have HL110_3 := n12_
                  have HL111_1 := n13_
                  have HL111_2 := n14_
                  have HL111_3 := n15_
                  have HR107_1 := n16_
                  have HR107_2 := n17_
                  have HR107_3 := n18_
                  have HR108_1 := n19_
                  have HR108_2 := n20_
                  have HR108_3 := n21_
                  have HR109_1 := n22_
                  have HR109_2 := n23_
                  have HR109_3 := n24_
                  have HR110_1 := n25_
                  have HR110_2 := n26_
                  have HR110_3 := n27_
                  have HR111_1 := n28_
                  have HR111_2 := n29_
                  have HR111_3 := n30_
                  have HB := n31_
                  clear n0_ n1_ n2_ n3_ n4_ n5_ n6_ n7_ n8_ n9_ n10_ n11_ n12_ n13_ n14_ n15_ n16_ n17_ n18_ n19_ n20_ n21_ n22_ n23_ n24_ n25_ n26_ n27_ n28_ n29_ n30_ n31_
                  (try clear hb)
                  (try clear hb2)
                  (try clear hk)
                  (try clear hi)
                  refine hK.out _ _ ⟨HS0_, HS1_, HS2_, HS3_, HS4_, HS5_, HS6_, HS7_, HS8_, HS9_, HS10_, HS11_⟩ (fun hHeld => ?_)
                  clear hK K
                  refine norm_ (a' := ?_) ?_ ?_
                  rotate_left
                  · show Act.put _ (some 63) _ = _
                    simp only [Act.put, List.setIfInBounds_toArray, List.set_cons_zero, List.set_cons_succ, i64_w, i32_w]
                    rfl
                  refine pure_ (i := 21) (N := some 64) (v := ?_) (a' := ?_) #[true, true, true, true, true, true, true, true, true, true, true, true, true, true, true, true, true, true, true, true, true, true, false] rfl rfl (any_of HT_.out (by kernel_rfl)) (fun _ _ _ h => h) (Or.inl ⟨by rfl, ?_⟩) ?_ ?_
                  rotate_left
                  · intro w'
                    go_simp
                    with_reducible rfl
                  rotate_left
                  · simp only [Act.put, List.setIfInBounds_toArray, List.set_cons_zero, List.set_cons_succ, i64_w, i32_w]
                    rfl
                  refine pure_ (i := 22) (N := some 65) (v := ?_) (a' := ?_) #[true, true, true, true, true, true, true, true, true, true, true, true, true, true, true, true, true, true, true, true, true, true, true] rfl rfl (any_of HT_.out (by kernel_rfl)) (fun _ _ _ h => h) (Or.inl ⟨by rfl, ?_⟩) ?_ ?_
                  rotate_left
                  · intro w'
                    go_simp
                    with_reducible rfl
                  rotate_left
                  · simp only [Act.put, List.setIfInBounds_toArray, List.set_cons_zero, List.set_cons_succ, i64_w, i32_w]
                    rfl
                  refine done_ (done_of HT_.out (by kernel_rfl)) ?_
                  try go_wp2
                  go_ret
                  exact ⟨by first | rfl | (simp [errW_none, errW_some] <;> rfl) | (simp [*, errW_none, errW_some] <;> rfl), by repeat (first | (with_reducible first | exact HB.out | apply below_alloc | apply pw_below_drewN | apply below_drew1) | exact HB.out)⟩
                · rw [if_neg c15] at H
                  have c15b0 : decide (t112 < 2) = false := decide_eq_false c15
                  clear c15
                  have H' := Aside0.mk H
                  clear H
                  obtain ⟨Ao19, co19, eo19⟩ := Kd.N_slice HO_6.out
                  subst eo19
                  have p107 : 0 ≤ (x9_1 : Int) := of_decide_eq_true (by first | (with_reducible assumption) | assumption)
                  have q107 : x9_1 < (t103.length : Int) := of_decide_eq_true (by first | (with_reducible assumption) | assumption)
                  obtain ⟨ad107, A107_1, c107_1, A107_2, c107_2, A107_3, c107_3, e107, hx107_0, hx107_1, hx107_2, hx107_3, hl107_1, hi107_1, hl107_2, hi107_2, hl107_3, hi107_3⟩ := at_T33 (Kd.N_reads' HO_6.out).2.2 x9_1 p107 q107
                  (try rw [← Nbq11.out] at hx107_0)
                  cases e107
                  obtain ⟨ce107, hce107, hMe107, hcc107⟩ := Kd.N_get HO_6.out z33 x9_1 p107 (by first | exact q107 | exact of_decide_eq_true (by first | (with_reducible assumption) | assumption) | (have e_ := (Kd.N_reads' HO_6.out).1; omega))
                  obtain ⟨ua107_1, uc107_1, ua107_2, uc107_2, ua107_3, uc107_3, rfl, ul107_1, ge107_1, ul107_2, ge107_2, ul107_3, ge107_3⟩ := k33_openF hMe107
                  have hv107_1 := hcc107 1 _ rfl
                  rw [add_field _ _ 1 (by omega)] at hv107_1
                  replace hv107_1 := Option.some.inj (hv107_1.symm.trans hx107_1)
                  injection hv107_1 with hva_ hvn_ hvc_
                  rw [hva_] at ge107_1
                  rw [hvc_] at ul107_1
                  have HL107_1 := Aside0.mk (show Kd.V Kd.string 9 _ w.heap.size _ _ ((rd_T33 t103 x9_1).f1) from Kd.V_mk ul107_1 ge107_1)
                  clear hva_ hvn_ hvc_ ge107_1 ul107_1
                  have hv107_2 := hcc107 2 _ rfl
                  rw [add_field _ _ 2 (by omega)] at hv107_2
                  replace hv107_2 := Option.some.inj (hv107_2.symm.trans hx107_2)
                  injection hv107_2 with hva_ hvn_ hvc_
                  rw [hva_] at ge107_2
                  rw [hvc_] at ul107_2
                  have HL107_2 := Aside0.mk (show Kd.V Kd.string 9 _ w.heap.size _ _ ((rd_T33 t103 x9_1).f2) from Kd.V_mk ul107_2 ge107_2)
                  clear hva_ hvn_ hvc_ ge107_2 ul107_2
                  have hv107_3 := hcc107 3 _ rfl
                  rw [add_field _ _ 3 (by omega)] at hv107_3
                  replace hv107_3 := Option.some.inj (hv107_3.symm.trans hx107_3)
                  injection hv107_3 with hva_ hvn_ hvc_
                  rw [hva_] at ge107_3
                  rw [hvc_] at ul107_3
                  have HL107_3 := Aside0.mk (show Kd.V (Kd.slice 9 Kd.string) 22 _ w.heap.size _ _ ((rd_T33 t103 x9_1).f3) from Kd.V_mk ul107_3 ge107_3)
                  clear hva_ hvn_ hvc_ ge107_3 ul107_3
                  clear hcc107 hce107
                  have HR107_1 := Aside0.mk hi107_1
                  have HC107_1 := Aside0.mk hl107_1
                  clear hi107_1 hl107_1
                  have HR107_2 := Aside0.mk hi107_2
                  have HC107_2 := Aside0.mk hl107_2
                  clear hi107_2 hl107_2
                  have HR107_3 := Aside0.mk hi107_3
                  have HC107_3 := Aside0.mk hl107_3
                  clear hi107_3 hl107_3
                  replace p107 := eq_true p107
                  replace q107 := eq_true q107
                  have p108 : 0 ≤ (x9_1 : Int) := of_decide_eq_true (by first | (with_reducible assumption) | assumption)
                  have q108 : x9_1 < (t103.length : Int) := of_decide_eq_true (by first | (with_reducible assumption) | assumption)
                  obtain ⟨ad108, A108_1, c108_1, A108_2, c108_2, A108_3, c108_3, e108, hx108_0, hx108_1, hx108_2, hx108_3, hl108_1, hi108_1, hl108_2, hi108_2, hl108_3, hi108_3⟩ := at_T33 (Kd.N_reads' HO_6.out).2.2 x9_1 p108 q108
                  (try rw [← Nbq11.out] at hx108_0)
                  obtain rfl : ad107 = ad108 := (by injection e108)
                  obtain ⟨ce108, hce108, hMe108, hcc108⟩ := Kd.N_get HO_6.out z33 x9_1 p108 (by first | exact q108 | exact of_decide_eq_true (by first | (with_reducible assumption) | assumption) | (have e_ := (Kd.N_reads' HO_6.out).1; omega))
                  obtain ⟨ua108_1, uc108_1, ua108_2, uc108_2, ua108_3, uc108_3, rfl, ul108_1, ge108_1, ul108_2, ge108_2, ul108_3, ge108_3⟩ := k33_openF hMe108
                  have hv108_1 := hcc108 1 _ rfl
                  rw [add_field _ _ 1 (by omega)] at hv108_1
                  replace hv108_1 := Option.some.inj (hv108_1.symm.trans hx108_1)
                  injection hv108_1 with hva_ hvn_ hvc_
                  rw [hva_] at ge108_1
                  rw [hvc_] at ul108_1
                  have HL108_1 := Aside0.mk (show Kd.V Kd.string 9 _ w.heap.size _ _ ((rd_T33 t103 x9_1).f1) from Kd.V_mk ul108_1 ge108_1)
                  clear hva_ hvn_ hvc_ ge108_1 ul108_1
                  have hv108_2 := hcc108 2 _ rfl
                  rw [add_field _ _ 2 (by omega)] at hv108_2
                  replace hv108_2 := Option.some.inj (hv108_2.symm.trans hx108_2)
                  injection hv108_2 with hva_ hvn_ hvc_
                  rw [hva_] at ge108_2
                  rw [hvc_] at ul108_2
                  have HL108_2 := Aside0.mk (show Kd.V Kd.string 9 _ w.heap.size _ _ ((rd_T33 t103 x9_1).f2) from Kd.V_mk ul108_2 ge108_2)
                  clear hva_ hvn_ hvc_ ge108_2 ul108_2
                  have hv108_3 := hcc108 3 _ rfl
                  rw [add_field _ _ 3 (by omega)] at hv108_3
                  replace hv108_3 := Option.some.inj (hv108_3.symm.trans hx108_3)
                  injection hv108_3 with hva_ hvn_ hvc_
                  rw [hva_] at ge108_3
                  rw [hvc_] at ul108_3
                  have HL108_3 := Aside0.mk (show Kd.V (Kd.slice 9 Kd.string) 22 _ w.heap.size _ _ ((rd_T33 t103 x9_1).f3) from Kd.V_mk ul108_3 ge108_3)
                  clear hva_ hvn_ hvc_ ge108_3 ul108_3
                  clear hcc108 hce108
                  have HR108_1 := Aside0.mk hi108_1
                  have HC108_1 := Aside0.mk hl108_1
                  clear hi108_1 hl108_1
                  have HR108_2 := Aside0.mk hi108_2
                  have HC108_2 := Aside0.mk hl108_2
                  clear hi108_2 hl108_2
                  have HR108_3 := Aside0.mk hi108_3
                  have HC108_3 := Aside0.mk hl108_3
                  clear hi108_3 hl108_3
                  replace p108 := eq_true p108
                  replace q108 := eq_true q108
                  have ea_ := Option.some.inj (hx107_1.symm.trans hx108_1)
                  injection ea_ with ea_ en_ ec_
                  subst ea_
                  subst ec_
                  clear en_
                  have ea_ := Option.some.inj (hx107_2.symm.trans hx108_2)
                  injection ea_ with ea_ en_ ec_
                  subst ea_
                  subst ec_
                  clear en_
                  have ea_ := Option.some.inj (hx107_3.symm.trans hx108_3)
                  injection ea_ with ea_ en_ ec_
                  subst ea_
                  subst ec_
                  clear en_
                  try go_wp2
                  have n0_ := Aside0.mk (Kd.N_drew HO_6.out)
                  have n1_ := Aside0.mk (Kd.V_drew HL107_1.out)
                  have n2_ := Aside0.mk (Kd.V_drew HL107_2.out)
                  have n3_ := Aside0.mk (Kd.V_drew HL107_3.out)
                  have n4_ := Aside0.mk (Kd.V_drew HL108_1.out)
                  have n5_ := Aside0.mk (Kd.V_drew HL108_2.out)
                  have n6_ := Aside0.mk (Kd.V_drew HL108_3.out)
                  have n7_ := Aside0.mk (Kd.C_drew HR107_1.out)
                  have n8_ := Aside0.mk (Kd.C_drew HR107_2.out)
                  have n9_ := Aside0.mk (Kd.C_drew HR107_3.out)
                  have n10_ := Aside0.mk (Kd.C_drew HR108_1.out)
                  have n11_ := Aside0.mk (Kd.C_drew HR108_2.out)
                  have n12_ := Aside0.mk (Kd.C_drew HR108_3.out)
                  have n13_ := Aside0.mk (below_drew1 HB.out)
                  clear HO_6
                  clear HL107_1
                  clear HL107_2
                  clear HL107_3
                  clear HL108_1
                  clear HL108_2
                  clear HL108_3
                  clear HR107_1
                  clear HR107_2
                  clear HR107_3
                  clear HR108_1
                  clear HR108_2
                  clear HR108_3
                  clear HB
                  have HO_6 := n0_
                  have HL107_1 := n1_
                  have HL107_2 := n2_
                  have HL107_3 := n3_
                  have HL108_1 := n4_
                  have HL108_2 := n5_
                  have HL108_3 := n6_
                  have HR107_1 := n7_
                  have HR107_2 := n8_
                  have HR107_3 := n9_
                  have HR108_1 := n10_
                  have HR108_2 := n11_
                  have HR108_3 := n12_
                  have HB := n13_
                  clear n0_ n1_ n2_ n3_ n4_ n5_ n6_ n7_ n8_ n9_ n10_ n11_ n12_ n13_
                  have p109 : 0 ≤ (x9_1 : Int) := of_decide_eq_true (by first | (with_reducible assumption) | assumption)
                  have q109 : x9_1 < (t103.length : Int) := of_decide_eq_true (by first | (with_reducible assumption) | assumption)
                  obtain ⟨ad109, A109_1, c109_1, A109_2, c109_2, A109_3, c109_3, e109, hx109_0, hx109_1, hx109_2, hx109_3, hl109_1, hi109_1, hl109_2, hi109_2, hl109_3, hi109_3⟩ := at_T33 (Kd.N_reads' HO_6.out).2.2 x9_1 p109 q109
                  (try rw [← Nbq11.out] at hx109_0)
                  obtain rfl : ad107 = ad109 := (by injection e109)
                  obtain ⟨ce109, hce109, hMe109, hcc109⟩ := Kd.N_get HO_6.out z33 x9_1 p109 (by first | exact q109 | exact of_decide_eq_true (by first | (with_reducible assumption) | assumption) | (have e_ := (Kd.N_reads' HO_6.out).1; omega))
                  obtain ⟨ua109_1, uc109_1, ua109_2, uc109_2, ua109_3, uc109_3, rfl, ul109_1, ge109_1, ul109_2, ge109_2, ul109_3, ge109_3⟩ := k33_openF hMe109
                  have hv109_1 := hcc109 1 _ rfl
                  rw [add_field _ _ 1 (by omega)] at hv109_1
                  replace hv109_1 := Option.some.inj (hv109_1.symm.trans hx109_1)
                  injection hv109_1 with hva_ hvn_ hvc_
                  rw [hva_] at ge109_1
                  rw [hvc_] at ul109_1
                  have HL109_1 := Aside0.mk (show Kd.V Kd.string 9 _ w.heap.size _ _ ((rd_T33 t103 x9_1).f1) from Kd.V_mk ul109_1 ge109_1)
                  clear hva_ hvn_ hvc_ ge109_1 ul109_1
                  have hv109_2 := hcc109 2 _ rfl
                  rw [add_field _ _ 2 (by omega)] at hv109_2
                  replace hv109_2 := Option.some.inj (hv109_2.symm.trans hx109_2)
                  injection hv109_2 with hva_ hvn_ hvc_
                  rw [hva_] at ge109_2
                  rw [hvc_] at ul109_2
                  have HL109_2 := Aside0.mk (show Kd.V Kd.string 9 _ w.heap.size _ _ ((rd_T33 t103 x9_1).f2) from Kd.V_mk ul109_2 ge109_2)
                  clear hva_ hvn_ hvc_ ge109_2 ul109_2
                  have hv109_3 := hcc109 3 _ rfl
                  rw [add_field _ _ 3 (by omega)] at hv109_3
                  replace hv109_3 := Option.some.inj (hv109_3.symm.trans hx109_3)
                  injection hv109_3 with hva_ hvn_ hvc_
                  rw [hva_] at ge109_3
                  rw [hvc_] at ul109_3
                  have HL109_3 := Aside0.mk (show Kd.V (Kd.slice 9 Kd.string) 22 _ w.heap.size _ _ ((rd_T33 t103 x9_1).f3) from Kd.V_mk ul109_3 ge109_3)
                  clear hva_ hvn_ hvc_ ge109_3 ul109_3
                  clear hcc109 hce109
                  have HR109_1 := Aside0.mk hi109_1
                  have HC109_1 := Aside0.mk hl109_1
                  clear hi109_1 hl109_1
                  have HR109_2 := Aside0.mk hi109_2
                  have HC109_2 := Aside0.mk hl109_2
                  clear hi109_2 hl109_2
                  have HR109_3 := Aside0.mk hi109_3
                  have HC109_3 := Aside0.mk hl109_3
                  clear hi109_3 hl109_3
                  replace p109 := eq_true p109
                  replace q109 := eq_true q109
                  have p110 : 0 ≤ (x9_1 : Int) := of_decide_eq_true (by first | (with_reducible assumption) | assumption)
                  have q110 : x9_1 < (t103.length : Int) := of_decide_eq_true (by first | (with_reducible assumption) | assumption)
                  obtain ⟨ad110, A110_1, c110_1, A110_2, c110_2, A110_3, c110_3, e110, hx110_0, hx110_1, hx110_2, hx110_3, hl110_1, hi110_1, hl110_2, hi110_2, hl110_3, hi110_3⟩ := at_T33 (Kd.N_reads' HO_6.out).2.2 x9_1 p110 q110
                  (try rw [← Nbq11.out] at hx110_0)
                  obtain rfl : ad107 = ad110 := (by injection e110)
                  obtain ⟨ce110, hce110, hMe110, hcc110⟩ := Kd.N_get HO_6.out z33 x9_1 p110 (by first | exact q110 | exact of_decide_eq_true (by first | (with_reducible assumption) | assumption) | (have e_ := (Kd.N_reads' HO_6.out).1; omega))
                  obtain ⟨ua110_1, uc110_1, ua110_2, uc110_2, ua110_3, uc110_3, rfl, ul110_1, ge110_1, ul110_2, ge110_2, ul110_3, ge110_3⟩ := k33_openF hMe110
                  have hv110_1 := hcc110 1 _ rfl
                  rw [add_field _ _ 1 (by omega)] at hv110_1
                  replace hv110_1 := Option.some.inj (hv110_1.symm.trans hx110_1)
                  injection hv110_1 with hva_ hvn_ hvc_
                  rw [hva_] at ge110_1
                  rw [hvc_] at ul110_1
                  have HL110_1 := Aside0.mk (show Kd.V Kd.string 9 _ w.heap.size _ _ ((rd_T33 t103 x9_1).f1) from Kd.V_mk ul110_1 ge110_1)
                  clear hva_ hvn_ hvc_ ge110_1 ul110_1
                  have hv110_2 := hcc110 2 _ rfl
                  rw [add_field _ _ 2 (by omega)] at hv110_2
                  replace hv110_2 := Option.some.inj (hv110_2.symm.trans hx110_2)
                  injection hv110_2 with hva_ hvn_ hvc_
                  rw [hva_] at ge110_2
                  rw [hvc_] at ul110_2
                  have HL110_2 := Aside0.mk (show Kd.V Kd.string 9 _ w.heap.size _ _ ((rd_T33 t103 x9_1).f2) from Kd.V_mk ul110_2 ge110_2)
                  clear hva_ hvn_ hvc_ ge110_2 ul110_2
                  have hv110_3 := hcc110 3 _ rfl
                  rw [add_field _ _ 3 (by omega)] at hv110_3
                  replace hv110_3 := Option.some.inj (hv110_3.symm.trans hx110_3)
                  injection hv110_3 with hva_ hvn_ hvc_
                  rw [hva_] at ge110_3
                  rw [hvc_] at ul110_3
                  have HL110_3 := Aside0.mk (show Kd.V (Kd.slice 9 Kd.string) 22 _ w.heap.size _ _ ((rd_T33 t103 x9_1).f3) from Kd.V_mk ul110_3 ge110_3)
                  clear hva_ hvn_ hvc_ ge110_3 ul110_3
                  clear hcc110 hce110
                  have HR110_1 := Aside0.mk hi110_1
                  have HC110_1 := Aside0.mk hl110_1
                  clear hi110_1 hl110_1
                  have HR110_2 := Aside0.mk hi110_2
                  have HC110_2 := Aside0.mk hl110_2
                  clear hi110_2 hl110_2
                  have HR110_3 := Aside0.mk hi110_3
                  have HC110_3 := Aside0.mk hl110_3
                  clear hi110_3 hl110_3
                  replace p110 := eq_true p110
                  replace q110 := eq_true q110
                  have ea_ := Option.some.inj (hx109_1.symm.trans hx110_1)
                  injection ea_ with ea_ en_ ec_
                  subst ea_
                  subst ec_
                  clear en_
                  have ea_ := Option.some.inj (hx109_2.symm.trans hx110_2)
                  injection ea_ with ea_ en_ ec_
                  subst ea_
                  subst ec_
                  clear en_
                  have ea_ := Option.some.inj (hx109_3.symm.trans hx110_3)
                  injection ea_ with ea_ en_ ec_
                  subst ea_
                  subst ec_
                  clear en_
                  have p111 : 0 ≤ (x9_1 : Int) := of_decide_eq_true (by first | (with_reducible assumption) | assumption)
                  have q111 : x9_1 < (t103.length : Int) := of_decide_eq_true (by first | (with_reducible assumption) | assumption)
                  obtain ⟨ad111, A111_1, c111_1, A111_2, c111_2, A111_3, c111_3, e111, hx111_0, hx111_1, hx111_2, hx111_3, hl111_1, hi111_1, hl111_2, hi111_2, hl111_3, hi111_3⟩ := at_T33 (Kd.N_reads' HO_6.out).2.2 x9_1 p111 q111
                  (try rw [← Nbq11.out] at hx111_0)
                  obtain rfl : ad107 = ad111 := (by injection e111)
                  obtain ⟨ce111, hce111, hMe111, hcc111⟩ := Kd.N_get HO_6.out z33 x9_1 p111 (by first | exact q111 | exact of_decide_eq_true (by first | (with_reducible assumption) | assumption) | (have e_ := (Kd.N_reads' HO_6.out).1; omega))
                  obtain ⟨ua111_1, uc111_1, ua111_2, uc111_2, ua111_3, uc111_3, rfl, ul111_1, ge111_1, ul111_2, ge111_2, ul111_3, ge111_3⟩ := k33_openF hMe111
                  have hv111_1 := hcc111 1 _ rfl
                  rw [add_field _ _ 1 (by omega)] at hv111_1
                  replace hv111_1 := Option.some.inj (hv111_1.symm.trans hx111_1)
                  injection hv111_1 with hva_ hvn_ hvc_
                  rw [hva_] at ge111_1
                  rw [hvc_] at ul111_1
                  have HL111_1 := Aside0.mk (show Kd.V Kd.string 9 _ w.heap.size _ _ ((rd_T33 t103 x9_1).f1) from Kd.V_mk ul111_1 ge111_1)
                  clear hva_ hvn_ hvc_ ge111_1 ul111_1
                  have hv111_2 := hcc111 2 _ rfl
                  rw [add_field _ _ 2 (by omega)] at hv111_2
                  replace hv111_2 := Option.some.inj (hv111_2.symm.trans hx111_2)
                  injection hv111_2 with hva_ hvn_ hvc_
                  rw [hva_] at ge111_2
                  rw [hvc_] at ul111_2
                  have HL111_2 := Aside0.mk (show Kd.V Kd.string 9 _ w.heap.size _ _ ((rd_T33 t103 x9_1).f2) from Kd.V_mk ul111_2 ge111_2)
                  clear hva_ hvn_ hvc_ ge111_2 ul111_2
                  have hv111_3 := hcc111 3 _ rfl
                  rw [add_field _ _ 3 (by omega)] at hv111_3
                  replace hv111_3 := Option.some.inj (hv111_3.symm.trans hx111_3)
                  injection hv111_3 with hva_ hvn_ hvc_
                  rw [hva_] at ge111_3
                  rw [hvc_] at ul111_3
                  have HL111_3 := Aside0.mk (show Kd.V (Kd.slice 9 Kd.string) 22 _ w.heap.size _ _ ((rd_T33 t103 x9_1).f3) from Kd.V_mk ul111_3 ge111_3)
                  clear hva_ hvn_ hvc_ ge111_3 ul111_3
                  clear hcc111 hce111
                  have HR111_1 := Aside0.mk hi111_1
                  have HC111_1 := Aside0.mk hl111_1
                  clear hi111_1 hl111_1
                  have HR111_2 := Aside0.mk hi111_2
                  have HC111_2 := Aside0.mk hl111_2
                  clear hi111_2 hl111_2
                  have HR111_3 := Aside0.mk hi111_3
                  have HC111_3 := Aside0.mk hl111_3
                  clear hi111_3 hl111_3
                  replace p111 := eq_true p111
                  replace q111 := eq_true q111
                  have ea_ := Option.some.inj (hx109_1.symm.trans hx111_1)
                  injection ea_ with ea_ en_ ec_
                  subst ea_
                  subst ec_
                  clear en_
                  have ea_ := Option.some.inj (hx109_2.symm.trans hx111_2)
                  injection ea_ with ea_ en_ ec_
                  subst ea_
                  subst ec_
                  clear en_
                  have ea_ := Option.some.inj (hx109_3.symm.trans hx111_3)
                  injection ea_ with ea_ en_ ec_
                  subst ea_
                  subst ec_
                  clear en_
                  refine start_ (n := 23) (S := fun w' => w'.cell? (ad107.add ((x9_1).toNat * 4)) = some (.bool (true)) ∧ w'.cell? ⟨(ad107.add ((x9_1).toNat * 4)).block, (ad107.add ((x9_1).toNat * 4)).off + 1, none⟩ = some (.slice A109_1 ((rd_T33 t103 x9_1).f1).length c109_1) ∧ w'.cell? ⟨(ad107.add ((x9_1).toNat * 4)).block, (ad107.add ((x9_1).toNat * 4)).off + 2, none⟩ = some (.slice A109_2 ((rd_T33 t103 x9_1).f2).length c109_2) ∧ w'.cell? ⟨(ad107.add ((x9_1).toNat * 4)).block, (ad107.add ((x9_1).toNat * 4)).off + 3, none⟩ = some (.slice A109_3 ((rd_T33 t103 x9_1).f3).length c109_3) ∧ w'.cell? (ad107.add ((x9_1).toNat * 4)) = some (.bool (true)) ∧ w'.cell? ⟨(ad107.add ((x9_1).toNat * 4)).block, (ad107.add ((x9_1).toNat * 4)).off + 1, none⟩ = some (.slice A109_1 ((rd_T33 t103 x9_1).f1).length c109_1) ∧ w'.cell? ⟨(ad107.add ((x9_1).toNat * 4)).block, (ad107.add ((x9_1).toNat * 4)).off + 2, none⟩ = some (.slice A109_2 ((rd_T33 t103 x9_1).f2).length c109_2) ∧ w'.cell? ⟨(ad107.add ((x9_1).toNat * 4)).block, (ad107.add ((x9_1).toNat * 4)).off + 3, none⟩ = some (.slice A109_3 ((rd_T33 t103 x9_1).f3).length c109_3) ∧ w'.cell? (ad107.add ((x9_1).toNat * 4)) = some (.bool (true)) ∧ w'.cell? ⟨(ad107.add ((x9_1).toNat * 4)).block, (ad107.add ((x9_1).toNat * 4)).off + 1, none⟩ = some (.slice A109_1 ((rd_T33 t103 x9_1).f1).length c109_1) ∧ w'.cell? ⟨(ad107.add ((x9_1).toNat * 4)).block, (ad107.add ((x9_1).toNat * 4)).off + 2, none⟩ = some (.slice A109_2 ((rd_T33 t103 x9_1).f2).length c109_2) ∧ w'.cell? ⟨(ad107.add ((x9_1).toNat * 4)).block, (ad107.add ((x9_1).toNat * 4)).off + 3, none⟩ = some (.slice A109_3 ((rd_T33 t103 x9_1).f3).length c109_3)) (ds := []) #[false, false, false, false, false, false, false, false, false, false, false, false, false, false, false, false, false, false, false, false, false, false, false] (by kernel_rfl) rfl rfl ⟨hx109_0, hx109_1, hx109_2, hx109_3, hx110_0, hx110_1, hx110_2, hx110_3, hx111_0, hx111_1, hx111_2, hx111_3⟩ (fun hHeld => ?_); refine with_tabW sennitlaw08_MergeCarries.tab11 sennitlaw08_MergeCarries.bits11 (fun HT_ HW_ => ?_)
                  generalize wr.drew = w20 at HO_6 HL107_1 HL107_2 HL107_3 HL108_1 HL108_2 HL108_3 HR107_1 HR107_2 HR107_3 HR108_1 HR108_2 HR108_3 HB HL109_1 HL109_2 HL109_3 HL110_1 HL110_2 HL110_3 HL111_1 HL111_2 HL111_3 HR109_1 HR109_2 HR109_3 HR110_1 HR110_2 HR110_3 HR111_1 HR111_2 HR111_3 hx109_0 hx109_1 hx109_2 hx109_3 hx110_0 hx110_1 hx110_2 hx110_3 hx111_0 hx111_1 hx111_2 hx111_3 hHeld ⊢
                  refine pure_ (i := 0) (N := some 43) (v := ?_) (a' := ?_) #[true, false, false, false, false, false, false, false, false, false, false, false, false, false, false, false, false, false, false, false, false, false, false] rfl rfl (any_of HT_.out (by kernel_rfl)) (fun _ _ _ h => h) (Or.inl ⟨by rfl, ?_⟩) ?_ ?_
                  rotate_left
                  · intro w'
                    go_simp
                    with_reducible rfl
                  rotate_left
                  · simp only [Act.put, List.setIfInBounds_toArray, List.set_cons_zero, List.set_cons_succ, i64_w, i32_w]
                    rfl
                  refine pure_ (i := 1) (N := some 44) (v := ?_) (a' := ?_) #[true, true, false, false, false, false, false, false, false, false, false, false, false, false, false, false, false, false, false, false, false, false, false] rfl rfl (any_of HT_.out (by kernel_rfl)) (fun _ _ _ h => h) (Or.inl ⟨by rfl, ?_⟩) ?_ ?_
                  rotate_left
                  · intro w'
                    go_simp
                    with_reducible rfl
                  rotate_left
                  · simp only [Act.put, List.setIfInBounds_toArray, List.set_cons_zero, List.set_cons_succ, i64_w, i32_w]
                    rfl
                  refine pure_ (i := 2) (N := some 45) (v := ?_) (a' := ?_) #[true, true, true, false, false, false, false, false, false, false, false, false, false, false, false, false, false, false, false, false, false, false, false] rfl rfl (any_of HT_.out (by kernel_rfl)) (fun _ _ _ h => h) (Or.inl ⟨by rfl, ?_⟩) ?_ ?_
                  rotate_left
                  · intro w'
                    go_simp
                    with_reducible rfl
                  rotate_left
                  · simp only [Act.put, List.setIfInBounds_toArray, List.set_cons_zero, List.set_cons_succ, i64_w, i32_w]
                    rfl
                  refine pure_ (i := 3) (N := some 46) (v := ?_) (a' := ?_) #[true, true, true, true, false, false, false, false, false, false, false, false, false, false, false, false, false, false, false, false, false, false, false] rfl rfl (any_of HT_.out (by kernel_rfl)) (fun _ _ _ h => h) (Or.inl ⟨by rfl, ?_⟩) ?_ ?_
                  rotate_left
                  · intro w'
                    go_simp
                    with_reducible rfl
                  rotate_left
                  · simp only [Act.put, List.setIfInBounds_toArray, List.set_cons_zero, List.set_cons_succ, i64_w, i32_w]
                    rfl
                  refine pure_ (i := 6) (N := some 49) (v := ?_) (a' := ?_) #[true, true, true, true, false, false, true, false, false, false, false, false, false, false, false, false, false, false, false, false, false, false, false] rfl rfl (any_of HT_.out (by kernel_rfl)) (fun _ _ _ h => h) (Or.inl ⟨by rfl, ?_⟩) ?_ ?_
                  rotate_left
                  · intro w'
                    go_simp
                    with_reducible rfl
                  rotate_left
                  · simp only [Act.put, List.setIfInBounds_toArray, List.set_cons_zero, List.set_cons_succ, i64_w, i32_w]
                    rfl
                  refine pure_ (i := 7) (N := some 50) (v := ?_) (a' := ?_) #[true, true, true, true, false, false, true, true, false, false, false, false, false, false, false, false, false, false, false, false, false, false, false] rfl rfl (any_of HT_.out (by kernel_rfl)) (fun _ _ _ h => h) (Or.inl ⟨by rfl, ?_⟩) ?_ ?_
                  rotate_left
                  · intro w'
                    go_simp
                    with_reducible rfl
                  rotate_left
                  · simp only [Act.put, List.setIfInBounds_toArray, List.set_cons_zero, List.set_cons_succ, i64_w, i32_w]
                    rfl
                  refine take_ (i := 4) (N := some 47) (v := ?_) (a' := ?_) #[true, true, true, true, true, false, true, true, false, false, false, false, false, false, false, false, false, false, false, false, false, false, false] rfl rfl (take_ofW HT_.out HW_.out (by kernel_rfl)) (fun _ _ _ h => h) (Or.inl ⟨by rfl, ?_⟩) hHeld ?_ ?_
                  rotate_left
                  · rintro w' ⟨s0, s1, s2, s3, s4, s5, s6, s7, s8, s9, s10, s11⟩
                    go_simp
                    with_reducible rfl
                  rotate_left
                  · simp only [Act.put, List.setIfInBounds_toArray, List.set_cons_zero, List.set_cons_succ, i64_w, i32_w]
                    rfl
                  refine pure_ (i := 5) (N := some 48) (v := ?_) (a' := ?_) #[true, true, true, true, true, true, true, true, false, false, false, false, false, false, false, false, false, false, false, false, false, false, false] rfl rfl (any_of HT_.out (by kernel_rfl)) (fun _ _ _ h => h) (Or.inl ⟨by rfl, ?_⟩) ?_ ?_
                  rotate_left
                  · intro w'
                    go_simp
                    with_reducible rfl
                  rotate_left
                  · simp only [Act.put, List.setIfInBounds_toArray, List.set_cons_zero, List.set_cons_succ, i64_w, i32_w]
                    rfl
                  refine pure_ (i := 8) (N := some 51) (v := ?_) (a' := ?_) #[true, true, true, true, true, true, true, true, true, false, false, false, false, false, false, false, false, false, false, false, false, false, false] rfl rfl (any_of HT_.out (by kernel_rfl)) (fun _ _ _ h => h) (Or.inl ⟨by rfl, ?_⟩) ?_ ?_
                  rotate_left
                  · intro w'
                    go_simp
                    with_reducible rfl
                  rotate_left
                  · simp only [Act.put, List.setIfInBounds_toArray, List.set_cons_zero, List.set_cons_succ, i64_w, i32_w]
                    rfl
                  refine pure_ (i := 9) (N := some 52) (v := ?_) (a' := ?_) #[true, true, true, true, true, true, true, true, true, true, false, false, false, false, false, false, false, false, false, false, false, false, false] rfl rfl (any_of HT_.out (by kernel_rfl)) (fun _ _ _ h => h) (Or.inl ⟨by rfl, ?_⟩) ?_ ?_
                  rotate_left
                  · intro w'
                    go_simp
                    with_reducible rfl
                  rotate_left
                  · simp only [Act.put, List.setIfInBounds_toArray, List.set_cons_zero, List.set_cons_succ, i64_w, i32_w]
                    rfl
                  refine pure_ (i := 10) (N := some 53) (v := ?_) (a' := ?_) #[true, true, true, true, true, true, true, true, true, true, true, false, false, false, false, false, false, false, false, false, false, false, false] rfl rfl (any_of HT_.out (by kernel_rfl)) (fun _ _ _ h => h) (Or.inl ⟨by rfl, ?_⟩) ?_ ?_
                  rotate_left
                  · intro w'
                    go_simp
                    with_reducible rfl
                  rotate_left
                  · simp only [Act.put, List.setIfInBounds_toArray, List.set_cons_zero, List.set_cons_succ, i64_w, i32_w]
                    rfl
                  refine pure_ (i := 11) (N := some 54) (v := ?_) (a' := ?_) #[true, true, true, true, true, true, true, true, true, true, true, true, false, false, false, false, false, false, false, false, false, false, false] rfl rfl (any_of HT_.out (by kernel_rfl)) (fun _ _ _ h => h) (Or.inl ⟨by rfl, ?_⟩) ?_ ?_
                  rotate_left
                  · intro w'
                    go_simp
                    with_reducible rfl
                  rotate_left
                  · simp only [Act.put, List.setIfInBounds_toArray, List.set_cons_zero, List.set_cons_succ, i64_w, i32_w]
                    rfl
                  refine pure_ (i := 12) (N := some 55) (v := ?_) (a' := ?_) #[true, true, true, true, true, true, true, true, true, true, true, true, true, false, false, false, false, false, false, false, false, false, false] rfl rfl (any_of HT_.out (by kernel_rfl)) (fun _ _ _ h => h) (Or.inl ⟨by rfl, ?_⟩) ?_ ?_
                  rotate_left
                  · intro w'
                    go_simp
                    with_reducible rfl
                  rotate_left
                  · simp only [Act.put, List.setIfInBounds_toArray, List.set_cons_zero, List.set_cons_succ, i64_w, i32_w]
                    rfl
                  refine pure_ (i := 13) (N := some 56) (v := ?_) (a' := ?_) #[true, true, true, true, true, true, true, true, true, true, true, true, true, true, false, false, false, false, false, false, false, false, false] rfl rfl (any_of HT_.out (by kernel_rfl)) (fun _ _ _ h => h) (Or.inl ⟨by rfl, ?_⟩) ?_ ?_
                  rotate_left
                  · intro w'
                    go_simp
                    with_reducible rfl
                  rotate_left
                  · simp only [Act.put, List.setIfInBounds_toArray, List.set_cons_zero, List.set_cons_succ, i64_w, i32_w]
                    rfl
                  refine pure_ (i := 15) (N := some 58) (v := ?_) (a' := ?_) #[true, true, true, true, true, true, true, true, true, true, true, true, true, true, false, true, false, false, false, false, false, false, false] rfl rfl (any_of HT_.out (by kernel_rfl)) (fun _ _ _ h => h) (Or.inl ⟨by rfl, ?_⟩) ?_ ?_
                  rotate_left
                  · intro w'
                    go_simp
                    with_reducible rfl
                  rotate_left
                  · simp only [Act.put, List.setIfInBounds_toArray, List.set_cons_zero, List.set_cons_succ, i64_w, i32_w]
                    rfl
                  refine pure_ (i := 16) (N := some 59) (v := ?_) (a' := ?_) #[true, true, true, true, true, true, true, true, true, true, true, true, true, true, false, true, true, false, false, false, false, false, false] rfl rfl (any_of HT_.out (by kernel_rfl)) (fun _ _ _ h => h) (Or.inl ⟨by rfl, ?_⟩) ?_ ?_
                  rotate_left
                  · intro w'
                    go_simp
                    with_reducible rfl
                  rotate_left
                  · simp only [Act.put, List.setIfInBounds_toArray, List.set_cons_zero, List.set_cons_succ, i64_w, i32_w]
                    rfl
                  refine pure_ (i := 17) (N := some 60) (v := ?_) (a' := ?_) #[true, true, true, true, true, true, true, true, true, true, true, true, true, true, false, true, true, true, false, false, false, false, false] rfl rfl (any_of HT_.out (by kernel_rfl)) (fun _ _ _ h => h) (Or.inl ⟨by rfl, ?_⟩) ?_ ?_
                  rotate_left
                  · intro w'
                    go_simp
                    with_reducible rfl
                  rotate_left
                  · simp only [Act.put, List.setIfInBounds_toArray, List.set_cons_zero, List.set_cons_succ, i64_w, i32_w]
                    rfl
                  refine pure_ (i := 18) (N := some 61) (v := ?_) (a' := ?_) #[true, true, true, true, true, true, true, true, true, true, true, true, true, true, false, true, true, true, true, false, false, false, false] rfl rfl (any_of HT_.out (by kernel_rfl)) (fun _ _ _ h => h) (Or.inl ⟨by rfl, ?_⟩) ?_ ?_
                  rotate_left
                  · intro w'
                    go_simp
                    with_reducible rfl
                  rotate_left
                  · simp only [Act.put, List.setIfInBounds_toArray, List.set_cons_zero, List.set_cons_succ, i64_w, i32_w]
                    rfl
                  refine take_ (i := 14) (N := some 57) (v := ?_) (a' := ?_) #[true, true, true, true, true, true, true, true, true, true, true, true, true, true, true, true, true, true, true, false, false, false, false] rfl rfl (take_ofW HT_.out HW_.out (by kernel_rfl)) (fun _ _ _ h => h) (Or.inl ⟨by rfl, ?_⟩) hHeld ?_ ?_
                  rotate_left
                  · rintro w' ⟨s0, s1, s2, s3, s4, s5, s6, s7, s8, s9, s10, s11⟩
                    go_simp
                    with_reducible rfl
                  rotate_left
                  · simp only [Act.put, List.setIfInBounds_toArray, List.set_cons_zero, List.set_cons_succ, i64_w, i32_w]
                    rfl
                  refine take_ (i := 19) (N := some 62) (v := ?_) (a' := ?_) #[true, true, true, true, true, true, true, true, true, true, true, true, true, true, true, true, true, true, true, true, false, false, false] rfl rfl (take_ofW HT_.out HW_.out (by kernel_rfl)) (fun _ _ _ h => h) (Or.inl ⟨by rfl, ?_⟩) hHeld ?_ ?_
                  rotate_left
                  · rintro w' ⟨s0, s1, s2, s3, s4, s5, s6, s7, s8, s9, s10, s11⟩
                    go_simp
                    with_reducible rfl
                  rotate_left
                  · simp only [Act.put, List.setIfInBounds_toArray, List.set_cons_zero, List.set_cons_succ, i64_w, i32_w]
                    rfl
                  refine one_ (i := 20) (N := some 63) #[true, true, true, true, true, true, true, true, true, true, true, true, true, true, true, true, true, true, true, true, true, false, false] rfl rfl (one_of HT_.out (by kernel_rfl)) (by decide) (fun K hK => ?_)
                  refine goes_ Try.func7 (by kernel_rfl) rfl #[.slice A109_2 ((rd_T33 t103 x9_1).f2).length c109_2, .slice A109_3 ((rd_T33 t103 x9_1).f3).length c109_3] (by rfl) rfl rfl (by (try simp only [List.map_toArray, List.map_cons, List.map_nil]); first | done | rfl | (simp only [List.length_drop, List.length_take]; rfl)) ?_
                  with_reducible refine (sennitref06_Kind.calls k1 _ _ ((rd_T33 t103 x9_1).f2) _ _ ((rd_T33 t103 x9_1).f3) t112 _ ?side1 ?side2 ?side3 ?side4 A14.out).mono ?_
                  (case side1 => repeat (first | exact (by repeat (first | (with_reducible exact HR110_2.out) | (with_reducible refine Kd.C_alloc ?_ _) | (with_reducible refine Kd.C_drewN ?_ _) | (with_reducible refine Kd.C_drew ?_) | exact HR110_2.out)) | (with_reducible refine Kd.C_alloc ?_ _) | (with_reducible refine Kd.C_drewN ?_ _) | (with_reducible refine Kd.C_drew ?_)))
                  (case side2 => exact HC110_2.out)
                  (case side3 => repeat (first | exact (by repeat (first | (with_reducible exact HR111_3.out) | (with_reducible refine Kd.C_alloc ?_ _) | (with_reducible refine Kd.C_drewN ?_ _) | (with_reducible refine Kd.C_drew ?_) | exact HR111_3.out)) | (with_reducible refine Kd.C_alloc ?_ _) | (with_reducible refine Kd.C_drewN ?_ _) | (with_reducible refine Kd.C_drew ?_)))
                  (case side4 => exact HC111_3.out)
                  rintro e w21 ⟨rfl, hb⟩
                  have HS0_ := (hb.cell (World.block_lt_of_cell? _ _ (hHeld.1))).trans (hHeld.1)
                  have HS1_ := (hb.cell (World.block_lt_of_cell? _ _ (hHeld.2.1))).trans (hHeld.2.1)
                  have HS2_ := (hb.cell (World.block_lt_of_cell? _ _ (hHeld.2.2.1))).trans (hHeld.2.2.1)
                  have HS3_ := (hb.cell (World.block_lt_of_cell? _ _ (hHeld.2.2.2.1))).trans (hHeld.2.2.2.1)
                  have HS4_ := (hb.cell (World.block_lt_of_cell? _ _ (hHeld.2.2.2.2.1))).trans (hHeld.2.2.2.2.1)
                  have HS5_ := (hb.cell (World.block_lt_of_cell? _ _ (hHeld.2.2.2.2.2.1))).trans (hHeld.2.2.2.2.2.1)
                  have HS6_ := (hb.cell (World.block_lt_of_cell? _ _ (hHeld.2.2.2.2.2.2.1))).trans (hHeld.2.2.2.2.2.2.1)
                  have HS7_ := (hb.cell (World.block_lt_of_cell? _ _ (hHeld.2.2.2.2.2.2.2.1))).trans (hHeld.2.2.2.2.2.2.2.1)
                  have HS8_ := (hb.cell (World.block_lt_of_cell? _ _ (hHeld.2.2.2.2.2.2.2.2.1))).trans (hHeld.2.2.2.2.2.2.2.2.1)
                  have HS9_ := (hb.cell (World.block_lt_of_cell? _ _ (hHeld.2.2.2.2.2.2.2.2.2.1))).trans (hHeld.2.2.2.2.2.2.2.2.2.1)
                  have HS10_ := (hb.cell (World.block_lt_of_cell? _ _ (hHeld.2.2.2.2.2.2.2.2.2.2.1))).trans (hHeld.2.2.2.2.2.2.2.2.2.2.1)
                  have HS11_ := (hb.cell (World.block_lt_of_cell? _ _ (hHeld.2.2.2.2.2.2.2.2.2.2.2))).trans (hHeld.2.2.2.2.2.2.2.2.2.2.2)
                  refine ⟨_, rfl, ?_⟩
                  have n0_ := Aside0.mk (Kd.N_below (by (with_reducible repeat (first | apply Kd.N_alloc | apply Kd.N_drewN | apply Kd.N_drew)); exact HO_6.out) hb)
                  have n1_ := Aside0.mk (Kd.V_below (by (with_reducible repeat (first | apply Kd.V_alloc | apply Kd.V_drewN | apply Kd.V_drew)); exact HL107_1.out) hb)
                  have n2_ := Aside0.mk (Kd.V_below (by (with_reducible repeat (first | apply Kd.V_alloc | apply Kd.V_drewN | apply Kd.V_drew)); exact HL107_2.out) hb)
                  have n3_ := Aside0.mk (Kd.V_below (by (with_reducible repeat (first | apply Kd.V_alloc | apply Kd.V_drewN | apply Kd.V_drew)); exact HL107_3.out) hb)
                  have n4_ := Aside0.mk (Kd.V_below (by (with_reducible repeat (first | apply Kd.V_alloc | apply Kd.V_drewN | apply Kd.V_drew)); exact HL108_1.out) hb)
                  have n5_ := Aside0.mk (Kd.V_below (by (with_reducible repeat (first | apply Kd.V_alloc | apply Kd.V_drewN | apply Kd.V_drew)); exact HL108_2.out) hb)
                  have n6_ := Aside0.mk (Kd.V_below (by (with_reducible repeat (first | apply Kd.V_alloc | apply Kd.V_drewN | apply Kd.V_drew)); exact HL108_3.out) hb)
                  have n7_ := Aside0.mk (Kd.V_below (by (with_reducible repeat (first | apply Kd.V_alloc | apply Kd.V_drewN | apply Kd.V_drew)); exact HL109_1.out) hb)
                  have n8_ := Aside0.mk (Kd.V_below (by (with_reducible repeat (first | apply Kd.V_alloc | apply Kd.V_drewN | apply Kd.V_drew)); exact HL109_2.out) hb)
                  have n9_ := Aside0.mk (Kd.V_below (by (with_reducible repeat (first | apply Kd.V_alloc | apply Kd.V_drewN | apply Kd.V_drew)); exact HL109_3.out) hb)
                  have n10_ := Aside0.mk (Kd.V_below (by (with_reducible repeat (first | apply Kd.V_alloc | apply Kd.V_drewN | apply Kd.V_drew)); exact HL110_1.out) hb)
                  have n11_ := Aside0.mk (Kd.V_below (by (with_reducible repeat (first | apply Kd.V_alloc | apply Kd.V_drewN | apply Kd.V_drew)); exact HL110_2.out) hb)
                  have n12_ := Aside0.mk (Kd.V_below (by (with_reducible repeat (first | apply Kd.V_alloc | apply Kd.V_drewN | apply Kd.V_drew)); exact HL110_3.out) hb)
                  have n13_ := Aside0.mk (Kd.V_below (by (with_reducible repeat (first | apply Kd.V_alloc | apply Kd.V_drewN | apply Kd.V_drew)); exact HL111_1.out) hb)
                  have n14_ := Aside0.mk (Kd.V_below (by (with_reducible repeat (first | apply Kd.V_alloc | apply Kd.V_drewN | apply Kd.V_drew)); exact HL111_2.out) hb)
                  have n15_ := Aside0.mk (Kd.V_below (by (with_reducible repeat (first | apply Kd.V_alloc | apply Kd.V_drewN | apply Kd.V_drew)); exact HL111_3.out) hb)
                  have n16_ := Aside0.mk (Kd.C_below (by repeat (first | (with_reducible exact HR107_1.out) | (with_reducible refine Kd.C_alloc ?_ _) | (with_reducible refine Kd.C_drewN ?_ _) | (with_reducible refine Kd.C_drew ?_) | exact HR107_1.out)) hb)
                  have n17_ := Aside0.mk (Kd.C_below (by repeat (first | (with_reducible exact HR107_2.out) | (with_reducible refine Kd.C_alloc ?_ _) | (with_reducible refine Kd.C_drewN ?_ _) | (with_reducible refine Kd.C_drew ?_) | exact HR107_2.out)) hb)
                  have n18_ := Aside0.mk (Kd.C_below (by repeat (first | (with_reducible exact HR107_3.out) | (with_reducible refine Kd.C_alloc ?_ _) | (with_reducible refine Kd.C_drewN ?_ _) | (with_reducible refine Kd.C_drew ?_) | exact HR107_3.out)) hb)
                  have n19_ := Aside0.mk (Kd.C_below (by repeat (first | (with_reducible exact HR108_1.out) | (with_reducible refine Kd.C_alloc ?_ _) | (with_reducible refine Kd.C_drewN ?_ _) | (with_reducible refine Kd.C_drew ?_) | exact HR108_1.out)) hb)
                  have n20_ := Aside0.mk (Kd.C_below (by repeat (first | (with_reducible exact HR108_2.out) | (with_reducible refine Kd.C_alloc ?_ _) | (with_reducible refine Kd.C_drewN ?_ _) | (with_reducible refine Kd.C_drew ?_) | exact HR108_2.out)) hb)
                  have n21_ := Aside0.mk (Kd.C_below (by repeat (first | (with_reducible exact HR108_3.out) | (with_reducible refine Kd.C_alloc ?_ _) | (with_reducible refine Kd.C_drewN ?_ _) | (with_reducible refine Kd.C_drew ?_) | exact HR108_3.out)) hb)
                  have n22_ := Aside0.mk (Kd.C_below (by repeat (first | (with_reducible exact HR109_1.out) | (with_reducible refine Kd.C_alloc ?_ _) | (with_reducible refine Kd.C_drewN ?_ _) | (with_reducible refine Kd.C_drew ?_) | exact HR109_1.out)) hb)
                  have n23_ := Aside0.mk (Kd.C_below (by repeat (first | (with_reducible exact HR109_2.out) | (with_reducible refine Kd.C_alloc ?_ _) | (with_reducible refine Kd.C_drewN ?_ _) | (with_reducible refine Kd.C_drew ?_) | exact HR109_2.out)) hb)
                  have n24_ := Aside0.mk (Kd.C_below (by repeat (first | (with_reducible exact HR109_3.out) | (with_reducible refine Kd.C_alloc ?_ _) | (with_reducible refine Kd.C_drewN ?_ _) | (with_reducible refine Kd.C_drew ?_) | exact HR109_3.out)) hb)
                  have n25_ := Aside0.mk (Kd.C_below (by repeat (first | (with_reducible exact HR110_1.out) | (with_reducible refine Kd.C_alloc ?_ _) | (with_reducible refine Kd.C_drewN ?_ _) | (with_reducible refine Kd.C_drew ?_) | exact HR110_1.out)) hb)
                  have n26_ := Aside0.mk (Kd.C_below (by repeat (first | (with_reducible exact HR110_2.out) | (with_reducible refine Kd.C_alloc ?_ _) | (with_reducible refine Kd.C_drewN ?_ _) | (with_reducible refine Kd.C_drew ?_) | exact HR110_2.out)) hb)
                  have n27_ := Aside0.mk (Kd.C_below (by repeat (first | (with_reducible exact HR110_3.out) | (with_reducible refine Kd.C_alloc ?_ _) | (with_reducible refine Kd.C_drewN ?_ _) | (with_reducible refine Kd.C_drew ?_) | exact HR110_3.out)) hb)
                  have n28_ := Aside0.mk (Kd.C_below (by repeat (first | (with_reducible exact HR111_1.out) | (with_reducible refine Kd.C_alloc ?_ _) | (with_reducible refine Kd.C_drewN ?_ _) | (with_reducible refine Kd.C_drew ?_) | exact HR111_1.out)) hb)
                  have n29_ := Aside0.mk (Kd.C_below (by repeat (first | (with_reducible exact HR111_2.out) | (with_reducible refine Kd.C_alloc ?_ _) | (with_reducible refine Kd.C_drewN ?_ _) | (with_reducible refine Kd.C_drew ?_) | exact HR111_2.out)) hb)
                  have n30_ := Aside0.mk (Kd.C_below (by repeat (first | (with_reducible exact HR111_3.out) | (with_reducible refine Kd.C_alloc ?_ _) | (with_reducible refine Kd.C_drewN ?_ _) | (with_reducible refine Kd.C_drew ?_) | exact HR111_3.out)) hb)
                  have n31_ := Aside0.mk (below_step (by repeat (first | (with_reducible first | exact HB.out | apply below_alloc | apply pw_below_drewN | apply below_drew1) | exact HB.out)) hb)
                  clear HO_6
                  clear HL107_1
                  clear HL107_2
                  clear HL107_3
                  clear HL108_1
                  clear HL108_2
                  clear HL108_3
                  clear HL109_1
                  clear HL109_2
                  clear HL109_3
                  clear HL110_1
                  clear HL110_2
                  clear HL110_3
                  clear HL111_1
                  clear HL111_2
                  clear HL111_3
                  clear HR107_1
                  clear HR107_2
                  clear HR107_3
                  clear HR108_1
                  clear HR108_2
                  clear HR108_3
                  clear HR109_1
                  clear HR109_2
                  clear HR109_3
                  clear HR110_1
                  clear HR110_2
                  clear HR110_3
                  clear HR111_1
                  clear HR111_2
                  clear HR111_3
                  clear HB
                  have HO_6 := n0_
                  have HL107_1 := n1_
                  have HL107_2 := n2_
                  have HL107_3 := n3_
                  have HL108_1 := n4_
                  have HL108_2 := n5_
                  have HL108_3 := n6_
                  have HL109_1 := n7_
                  have HL109_2 := n8_
                  have HL109_3 := n9_
                  have HL110_1 := n10_
                  have HL110_2 := n11_
                  have HL110_3 := n12_
                  have HL111_1 := n13_
                  have HL111_2 := n14_
                  have HL111_3 := n15_
                  have HR107_1 := n16_
                  have HR107_2 := n17_
                  have HR107_3 := n18_
                  have HR108_1 := n19_
                  have HR108_2 := n20_
                  have HR108_3 := n21_
                  have HR109_1 := n22_
                  have HR109_2 := n23_
                  have HR109_3 := n24_
                  have HR110_1 := n25_
                  have HR110_2 := n26_
                  have HR110_3 := n27_
                  have HR111_1 := n28_
                  have HR111_2 := n29_
                  have HR111_3 := n30_
                  have HB := n31_
                  clear n0_ n1_ n2_ n3_ n4_ n5_ n6_ n7_ n8_ n9_ n10_ n11_ n12_ n13_ n14_ n15_ n16_ n17_ n18_ n19_ n20_ n21_ n22_ n23_ n24_ n25_ n26_ n27_ n28_ n29_ n30_ n31_
                  (try clear hb)
                  (try clear hb2)
                  (try clear hk)
                  (try clear hi)
                  refine hK.out _ _ ⟨HS0_, HS1_, HS2_, HS3_, HS4_, HS5_, HS6_, HS7_, HS8_, HS9_, HS10_, HS11_⟩ (fun hHeld => ?_)
                  clear hK K
                  refine norm_ (a' := ?_) ?_ ?_
                  rotate_left
                  · show Act.put _ (some 63) _ = _
                    simp only [Act.put, List.setIfInBounds_toArray, List.set_cons_zero, List.set_cons_succ, i64_w, i32_w]
                    rfl
                  refine pure_ (i := 21) (N := some 64) (v := ?_) (a' := ?_) #[true, true, true, true, true, true, true, true, true, true, true, true, true, true, true, true, true, true, true, true, true, true, false] rfl rfl (any_of HT_.out (by kernel_rfl)) (fun _ _ _ h => h) (Or.inl ⟨by rfl, ?_⟩) ?_ ?_
                  rotate_left
                  · intro w'
                    go_simp
                    with_reducible rfl
                  rotate_left
                  · simp only [Act.put, List.setIfInBounds_toArray, List.set_cons_zero, List.set_cons_succ, i64_w, i32_w]
                    rfl
                  refine pure_ (i := 22) (N := some 65) (v := ?_) (a' := ?_) #[true, true, true, true, true, true, true, true, true, true, true, true, true, true, true, true, true, true, true, true, true, true, true] rfl rfl (any_of HT_.out (by kernel_rfl)) (fun _ _ _ h => h) (Or.inl ⟨by rfl, ?_⟩) ?_ ?_
                  rotate_left
                  · intro w'
                    go_simp
                    with_reducible rfl
                  rotate_left
                  · simp only [Act.put, List.setIfInBounds_toArray, List.set_cons_zero, List.set_cons_succ, i64_w, i32_w]
                    rfl
                  refine done_ (done_of HT_.out (by kernel_rfl)) ?_
                  try go_wp2
                  go_roundg k1
                  case measure => have := HK1.out; omega
                  case rel => exact ⟨(wrap64 (x8_1 + (((rd_T33 t103 x9_1).f2).length : Int))), (wrap64 (x9_1 + 1)), (by first | rfl | (simp; done) | (simp [*]; done)), (by first | rfl | (simp; done) | (simp [*]; done)), H', ⟨by have := HK1.out; omega⟩, ⟨by (with_reducible repeat (first | apply Kd.N_alloc | apply Kd.N_drewN | apply Kd.N_drew)); exact HO_6.out⟩, ⟨by repeat (first | (with_reducible first | exact HB.out | apply below_alloc | apply pw_below_drewN | apply below_drew1) | exact HB.out)⟩⟩
              · rw [if_neg c13] at H
                have c13b0 : ((((rd_T33 t103 x9_1).f3).length : Int) == (l1.length : Int)) = false := beq_eq_false_iff_ne.mpr c13
                have c13b1 : ((((rd_T33 t103 x9_1).f3).length : Int) != (l1.length : Int)) = true := bne_iff_ne.mpr c13
                have c13b2 : (((rd_T33 t103 x9_1).f3).length == l1.length) = false := by first | simpa using c13 | (simp at c13 ⊢; omega)
                obtain rfl := Option.some.inj H
                obtain ⟨Ao22, co22, eo22⟩ := Kd.N_slice HO_6.out
                subst eo22
                have p107 : 0 ≤ (x9_1 : Int) := of_decide_eq_true (by first | (with_reducible assumption) | assumption)
                have q107 : x9_1 < (t103.length : Int) := of_decide_eq_true (by first | (with_reducible assumption) | assumption)
                obtain ⟨ad107, A107_1, c107_1, A107_2, c107_2, A107_3, c107_3, e107, hx107_0, hx107_1, hx107_2, hx107_3, hl107_1, hi107_1, hl107_2, hi107_2, hl107_3, hi107_3⟩ := at_T33 (Kd.N_reads' HO_6.out).2.2 x9_1 p107 q107
                (try rw [← Nbq11.out] at hx107_0)
                cases e107
                obtain ⟨ce107, hce107, hMe107, hcc107⟩ := Kd.N_get HO_6.out z33 x9_1 p107 (by first | exact q107 | exact of_decide_eq_true (by first | (with_reducible assumption) | assumption) | (have e_ := (Kd.N_reads' HO_6.out).1; omega))
                obtain ⟨ua107_1, uc107_1, ua107_2, uc107_2, ua107_3, uc107_3, rfl, ul107_1, ge107_1, ul107_2, ge107_2, ul107_3, ge107_3⟩ := k33_openF hMe107
                have hv107_1 := hcc107 1 _ rfl
                rw [add_field _ _ 1 (by omega)] at hv107_1
                replace hv107_1 := Option.some.inj (hv107_1.symm.trans hx107_1)
                injection hv107_1 with hva_ hvn_ hvc_
                rw [hva_] at ge107_1
                rw [hvc_] at ul107_1
                have HL107_1 := Aside0.mk (show Kd.V Kd.string 9 _ w.heap.size _ _ ((rd_T33 t103 x9_1).f1) from Kd.V_mk ul107_1 ge107_1)
                clear hva_ hvn_ hvc_ ge107_1 ul107_1
                have hv107_2 := hcc107 2 _ rfl
                rw [add_field _ _ 2 (by omega)] at hv107_2
                replace hv107_2 := Option.some.inj (hv107_2.symm.trans hx107_2)
                injection hv107_2 with hva_ hvn_ hvc_
                rw [hva_] at ge107_2
                rw [hvc_] at ul107_2
                have HL107_2 := Aside0.mk (show Kd.V Kd.string 9 _ w.heap.size _ _ ((rd_T33 t103 x9_1).f2) from Kd.V_mk ul107_2 ge107_2)
                clear hva_ hvn_ hvc_ ge107_2 ul107_2
                have hv107_3 := hcc107 3 _ rfl
                rw [add_field _ _ 3 (by omega)] at hv107_3
                replace hv107_3 := Option.some.inj (hv107_3.symm.trans hx107_3)
                injection hv107_3 with hva_ hvn_ hvc_
                rw [hva_] at ge107_3
                rw [hvc_] at ul107_3
                have HL107_3 := Aside0.mk (show Kd.V (Kd.slice 9 Kd.string) 22 _ w.heap.size _ _ ((rd_T33 t103 x9_1).f3) from Kd.V_mk ul107_3 ge107_3)
                clear hva_ hvn_ hvc_ ge107_3 ul107_3
                clear hcc107 hce107
                have HR107_1 := Aside0.mk hi107_1
                have HC107_1 := Aside0.mk hl107_1
                clear hi107_1 hl107_1
                have HR107_2 := Aside0.mk hi107_2
                have HC107_2 := Aside0.mk hl107_2
                clear hi107_2 hl107_2
                have HR107_3 := Aside0.mk hi107_3
                have HC107_3 := Aside0.mk hl107_3
                clear hi107_3 hl107_3
                replace p107 := eq_true p107
                replace q107 := eq_true q107
                have p108 : 0 ≤ (x9_1 : Int) := of_decide_eq_true (by first | (with_reducible assumption) | assumption)
                have q108 : x9_1 < (t103.length : Int) := of_decide_eq_true (by first | (with_reducible assumption) | assumption)
                obtain ⟨ad108, A108_1, c108_1, A108_2, c108_2, A108_3, c108_3, e108, hx108_0, hx108_1, hx108_2, hx108_3, hl108_1, hi108_1, hl108_2, hi108_2, hl108_3, hi108_3⟩ := at_T33 (Kd.N_reads' HO_6.out).2.2 x9_1 p108 q108
                (try rw [← Nbq11.out] at hx108_0)
                obtain rfl : ad107 = ad108 := (by injection e108)
                obtain ⟨ce108, hce108, hMe108, hcc108⟩ := Kd.N_get HO_6.out z33 x9_1 p108 (by first | exact q108 | exact of_decide_eq_true (by first | (with_reducible assumption) | assumption) | (have e_ := (Kd.N_reads' HO_6.out).1; omega))
                obtain ⟨ua108_1, uc108_1, ua108_2, uc108_2, ua108_3, uc108_3, rfl, ul108_1, ge108_1, ul108_2, ge108_2, ul108_3, ge108_3⟩ := k33_openF hMe108
                have hv108_1 := hcc108 1 _ rfl
                rw [add_field _ _ 1 (by omega)] at hv108_1
                replace hv108_1 := Option.some.inj (hv108_1.symm.trans hx108_1)
                injection hv108_1 with hva_ hvn_ hvc_
                rw [hva_] at ge108_1
                rw [hvc_] at ul108_1
                have HL108_1 := Aside0.mk (show Kd.V Kd.string 9 _ w.heap.size _ _ ((rd_T33 t103 x9_1).f1) from Kd.V_mk ul108_1 ge108_1)
                clear hva_ hvn_ hvc_ ge108_1 ul108_1
                have hv108_2 := hcc108 2 _ rfl
                rw [add_field _ _ 2 (by omega)] at hv108_2
                replace hv108_2 := Option.some.inj (hv108_2.symm.trans hx108_2)
                injection hv108_2 with hva_ hvn_ hvc_
                rw [hva_] at ge108_2
                rw [hvc_] at ul108_2
                have HL108_2 := Aside0.mk (show Kd.V Kd.string 9 _ w.heap.size _ _ ((rd_T33 t103 x9_1).f2) from Kd.V_mk ul108_2 ge108_2)
                clear hva_ hvn_ hvc_ ge108_2 ul108_2
                have hv108_3 := hcc108 3 _ rfl
                rw [add_field _ _ 3 (by omega)] at hv108_3
                replace hv108_3 := Option.some.inj (hv108_3.symm.trans hx108_3)
                injection hv108_3 with hva_ hvn_ hvc_
                rw [hva_] at ge108_3
                rw [hvc_] at ul108_3
                have HL108_3 := Aside0.mk (show Kd.V (Kd.slice 9 Kd.string) 22 _ w.heap.size _ _ ((rd_T33 t103 x9_1).f3) from Kd.V_mk ul108_3 ge108_3)
                clear hva_ hvn_ hvc_ ge108_3 ul108_3
                clear hcc108 hce108
                have HR108_1 := Aside0.mk hi108_1
                have HC108_1 := Aside0.mk hl108_1
                clear hi108_1 hl108_1
                have HR108_2 := Aside0.mk hi108_2
                have HC108_2 := Aside0.mk hl108_2
                clear hi108_2 hl108_2
                have HR108_3 := Aside0.mk hi108_3
                have HC108_3 := Aside0.mk hl108_3
                clear hi108_3 hl108_3
                replace p108 := eq_true p108
                replace q108 := eq_true q108
                have ea_ := Option.some.inj (hx107_1.symm.trans hx108_1)
                injection ea_ with ea_ en_ ec_
                subst ea_
                subst ec_
                clear en_
                have ea_ := Option.some.inj (hx107_2.symm.trans hx108_2)
                injection ea_ with ea_ en_ ec_
                subst ea_
                subst ec_
                clear en_
                have ea_ := Option.some.inj (hx107_3.symm.trans hx108_3)
                injection ea_ with ea_ en_ ec_
                subst ea_
                subst ec_
                clear en_
                try go_wp2
                have n0_ := Aside0.mk (Kd.N_drew HO_6.out)
                have n1_ := Aside0.mk (Kd.V_drew HL107_1.out)
                have n2_ := Aside0.mk (Kd.V_drew HL107_2.out)
                have n3_ := Aside0.mk (Kd.V_drew HL107_3.out)
                have n4_ := Aside0.mk (Kd.V_drew HL108_1.out)
                have n5_ := Aside0.mk (Kd.V_drew HL108_2.out)
                have n6_ := Aside0.mk (Kd.V_drew HL108_3.out)
                have n7_ := Aside0.mk (Kd.C_drew HR107_1.out)
                have n8_ := Aside0.mk (Kd.C_drew HR107_2.out)
                have n9_ := Aside0.mk (Kd.C_drew HR107_3.out)
                have n10_ := Aside0.mk (Kd.C_drew HR108_1.out)
                have n11_ := Aside0.mk (Kd.C_drew HR108_2.out)
                have n12_ := Aside0.mk (Kd.C_drew HR108_3.out)
                have n13_ := Aside0.mk (below_drew1 HB.out)
                clear HO_6
                clear HL107_1
                clear HL107_2
                clear HL107_3
                clear HL108_1
                clear HL108_2
                clear HL108_3
                clear HR107_1
                clear HR107_2
                clear HR107_3
                clear HR108_1
                clear HR108_2
                clear HR108_3
                clear HB
                have HO_6 := n0_
                have HL107_1 := n1_
                have HL107_2 := n2_
                have HL107_3 := n3_
                have HL108_1 := n4_
                have HL108_2 := n5_
                have HL108_3 := n6_
                have HR107_1 := n7_
                have HR107_2 := n8_
                have HR107_3 := n9_
                have HR108_1 := n10_
                have HR108_2 := n11_
                have HR108_3 := n12_
                have HB := n13_
                clear n0_ n1_ n2_ n3_ n4_ n5_ n6_ n7_ n8_ n9_ n10_ n11_ n12_ n13_
                have p109 : 0 ≤ (x9_1 : Int) := of_decide_eq_true (by first | (with_reducible assumption) | assumption)
                have q109 : x9_1 < (t103.length : Int) := of_decide_eq_true (by first | (with_reducible assumption) | assumption)
                obtain ⟨ad109, A109_1, c109_1, A109_2, c109_2, A109_3, c109_3, e109, hx109_0, hx109_1, hx109_2, hx109_3, hl109_1, hi109_1, hl109_2, hi109_2, hl109_3, hi109_3⟩ := at_T33 (Kd.N_reads' HO_6.out).2.2 x9_1 p109 q109
                (try rw [← Nbq11.out] at hx109_0)
                obtain rfl : ad107 = ad109 := (by injection e109)
                obtain ⟨ce109, hce109, hMe109, hcc109⟩ := Kd.N_get HO_6.out z33 x9_1 p109 (by first | exact q109 | exact of_decide_eq_true (by first | (with_reducible assumption) | assumption) | (have e_ := (Kd.N_reads' HO_6.out).1; omega))
                obtain ⟨ua109_1, uc109_1, ua109_2, uc109_2, ua109_3, uc109_3, rfl, ul109_1, ge109_1, ul109_2, ge109_2, ul109_3, ge109_3⟩ := k33_openF hMe109
                have hv109_1 := hcc109 1 _ rfl
                rw [add_field _ _ 1 (by omega)] at hv109_1
                replace hv109_1 := Option.some.inj (hv109_1.symm.trans hx109_1)
                injection hv109_1 with hva_ hvn_ hvc_
                rw [hva_] at ge109_1
                rw [hvc_] at ul109_1
                have HL109_1 := Aside0.mk (show Kd.V Kd.string 9 _ w.heap.size _ _ ((rd_T33 t103 x9_1).f1) from Kd.V_mk ul109_1 ge109_1)
                clear hva_ hvn_ hvc_ ge109_1 ul109_1
                have hv109_2 := hcc109 2 _ rfl
                rw [add_field _ _ 2 (by omega)] at hv109_2
                replace hv109_2 := Option.some.inj (hv109_2.symm.trans hx109_2)
                injection hv109_2 with hva_ hvn_ hvc_
                rw [hva_] at ge109_2
                rw [hvc_] at ul109_2
                have HL109_2 := Aside0.mk (show Kd.V Kd.string 9 _ w.heap.size _ _ ((rd_T33 t103 x9_1).f2) from Kd.V_mk ul109_2 ge109_2)
                clear hva_ hvn_ hvc_ ge109_2 ul109_2
                have hv109_3 := hcc109 3 _ rfl
                rw [add_field _ _ 3 (by omega)] at hv109_3
                replace hv109_3 := Option.some.inj (hv109_3.symm.trans hx109_3)
                injection hv109_3 with hva_ hvn_ hvc_
                rw [hva_] at ge109_3
                rw [hvc_] at ul109_3
                have HL109_3 := Aside0.mk (show Kd.V (Kd.slice 9 Kd.string) 22 _ w.heap.size _ _ ((rd_T33 t103 x9_1).f3) from Kd.V_mk ul109_3 ge109_3)
                clear hva_ hvn_ hvc_ ge109_3 ul109_3
                clear hcc109 hce109
                have HR109_1 := Aside0.mk hi109_1
                have HC109_1 := Aside0.mk hl109_1
                clear hi109_1 hl109_1
                have HR109_2 := Aside0.mk hi109_2
                have HC109_2 := Aside0.mk hl109_2
                clear hi109_2 hl109_2
                have HR109_3 := Aside0.mk hi109_3
                have HC109_3 := Aside0.mk hl109_3
                clear hi109_3 hl109_3
                replace p109 := eq_true p109
                replace q109 := eq_true q109
                refine start_ (n := 23) (S := fun w' => w'.cell? (ad107.add ((x9_1).toNat * 4)) = some (.bool (true)) ∧ w'.cell? ⟨(ad107.add ((x9_1).toNat * 4)).block, (ad107.add ((x9_1).toNat * 4)).off + 1, none⟩ = some (.slice A109_1 ((rd_T33 t103 x9_1).f1).length c109_1) ∧ w'.cell? ⟨(ad107.add ((x9_1).toNat * 4)).block, (ad107.add ((x9_1).toNat * 4)).off + 2, none⟩ = some (.slice A109_2 ((rd_T33 t103 x9_1).f2).length c109_2) ∧ w'.cell? ⟨(ad107.add ((x9_1).toNat * 4)).block, (ad107.add ((x9_1).toNat * 4)).off + 3, none⟩ = some (.slice A109_3 ((rd_T33 t103 x9_1).f3).length c109_3)) (ds := []) #[false, false, false, false, false, false, false, false, false, false, false, false, false, false, false, false, false, false, false, false, false, false, false] (by kernel_rfl) rfl rfl ⟨hx109_0, hx109_1, hx109_2, hx109_3⟩ (fun hHeld => ?_); refine with_tabW sennitlaw08_MergeCarries.tab11 sennitlaw08_MergeCarries.bits11 (fun HT_ HW_ => ?_)
                generalize wr.drew = w23 at HO_6 HL107_1 HL107_2 HL107_3 HL108_1 HL108_2 HL108_3 HR107_1 HR107_2 HR107_3 HR108_1 HR108_2 HR108_3 HB HL109_1 HL109_2 HL109_3 HR109_1 HR109_2 HR109_3 hx109_0 hx109_1 hx109_2 hx109_3 hHeld ⊢
                refine pure_ (i := 0) (N := some 43) (v := ?_) (a' := ?_) #[true, false, false, false, false, false, false, false, false, false, false, false, false, false, false, false, false, false, false, false, false, false, false] rfl rfl (any_of HT_.out (by kernel_rfl)) (fun _ _ _ h => h) (Or.inl ⟨by rfl, ?_⟩) ?_ ?_
                rotate_left
                · intro w'
                  go_simp
                  with_reducible rfl
                rotate_left
                · simp only [Act.put, List.setIfInBounds_toArray, List.set_cons_zero, List.set_cons_succ, i64_w, i32_w]
                  rfl
                refine pure_ (i := 1) (N := some 44) (v := ?_) (a' := ?_) #[true, true, false, false, false, false, false, false, false, false, false, false, false, false, false, false, false, false, false, false, false, false, false] rfl rfl (any_of HT_.out (by kernel_rfl)) (fun _ _ _ h => h) (Or.inl ⟨by rfl, ?_⟩) ?_ ?_
                rotate_left
                · intro w'
                  go_simp
                  with_reducible rfl
                rotate_left
                · simp only [Act.put, List.setIfInBounds_toArray, List.set_cons_zero, List.set_cons_succ, i64_w, i32_w]
                  rfl
                refine pure_ (i := 2) (N := some 45) (v := ?_) (a' := ?_) #[true, true, true, false, false, false, false, false, false, false, false, false, false, false, false, false, false, false, false, false, false, false, false] rfl rfl (any_of HT_.out (by kernel_rfl)) (fun _ _ _ h => h) (Or.inl ⟨by rfl, ?_⟩) ?_ ?_
                rotate_left
                · intro w'
                  go_simp
                  with_reducible rfl
                rotate_left
                · simp only [Act.put, List.setIfInBounds_toArray, List.set_cons_zero, List.set_cons_succ, i64_w, i32_w]
                  rfl
                refine pure_ (i := 3) (N := some 46) (v := ?_) (a' := ?_) #[true, true, true, true, false, false, false, false, false, false, false, false, false, false, false, false, false, false, false, false, false, false, false] rfl rfl (any_of HT_.out (by kernel_rfl)) (fun _ _ _ h => h) (Or.inl ⟨by rfl, ?_⟩) ?_ ?_
                rotate_left
                · intro w'
                  go_simp
                  with_reducible rfl
                rotate_left
                · simp only [Act.put, List.setIfInBounds_toArray, List.set_cons_zero, List.set_cons_succ, i64_w, i32_w]
                  rfl
                refine pure_ (i := 6) (N := some 49) (v := ?_) (a' := ?_) #[true, true, true, true, false, false, true, false, false, false, false, false, false, false, false, false, false, false, false, false, false, false, false] rfl rfl (any_of HT_.out (by kernel_rfl)) (fun _ _ _ h => h) (Or.inl ⟨by rfl, ?_⟩) ?_ ?_
                rotate_left
                · intro w'
                  go_simp
                  with_reducible rfl
                rotate_left
                · simp only [Act.put, List.setIfInBounds_toArray, List.set_cons_zero, List.set_cons_succ, i64_w, i32_w]
                  rfl
                refine pure_ (i := 7) (N := some 50) (v := ?_) (a' := ?_) #[true, true, true, true, false, false, true, true, false, false, false, false, false, false, false, false, false, false, false, false, false, false, false] rfl rfl (any_of HT_.out (by kernel_rfl)) (fun _ _ _ h => h) (Or.inl ⟨by rfl, ?_⟩) ?_ ?_
                rotate_left
                · intro w'
                  go_simp
                  with_reducible rfl
                rotate_left
                · simp only [Act.put, List.setIfInBounds_toArray, List.set_cons_zero, List.set_cons_succ, i64_w, i32_w]
                  rfl
                refine take_ (i := 4) (N := some 47) (v := ?_) (a' := ?_) #[true, true, true, true, true, false, true, true, false, false, false, false, false, false, false, false, false, false, false, false, false, false, false] rfl rfl (take_ofW HT_.out HW_.out (by kernel_rfl)) (fun _ _ _ h => h) (Or.inl ⟨by rfl, ?_⟩) hHeld ?_ ?_
                rotate_left
                · rintro w' ⟨s0, s1, s2, s3⟩
                  go_simp
                  with_reducible rfl
                rotate_left
                · simp only [Act.put, List.setIfInBounds_toArray, List.set_cons_zero, List.set_cons_succ, i64_w, i32_w]
                  rfl
                refine pure_ (i := 5) (N := some 48) (v := ?_) (a' := ?_) #[true, true, true, true, true, true, true, true, false, false, false, false, false, false, false, false, false, false, false, false, false, false, false] rfl rfl (any_of HT_.out (by kernel_rfl)) (fun _ _ _ h => h) (Or.inl ⟨by rfl, ?_⟩) ?_ ?_
                rotate_left
                · intro w'
                  go_simp
                  with_reducible rfl
                rotate_left
                · simp only [Act.put, List.setIfInBounds_toArray, List.set_cons_zero, List.set_cons_succ, i64_w, i32_w]
                  rfl
                refine pure_ (i := 8) (N := some 51) (v := ?_) (a' := ?_) #[true, true, true, true, true, true, true, true, true, false, false, false, false, false, false, false, false, false, false, false, false, false, false] rfl rfl (any_of HT_.out (by kernel_rfl)) (fun _ _ _ h => h) (Or.inl ⟨by rfl, ?_⟩) ?_ ?_
                rotate_left
                · intro w'
                  go_simp
                  with_reducible rfl
                rotate_left
                · simp only [Act.put, List.setIfInBounds_toArray, List.set_cons_zero, List.set_cons_succ, i64_w, i32_w]
                  rfl
                refine pure_ (i := 9) (N := some 52) (v := ?_) (a' := ?_) #[true, true, true, true, true, true, true, true, true, true, false, false, false, false, false, false, false, false, false, false, false, false, false] rfl rfl (any_of HT_.out (by kernel_rfl)) (fun _ _ _ h => h) (Or.inl ⟨by rfl, ?_⟩) ?_ ?_
                rotate_left
                · intro w'
                  go_simp
                  with_reducible rfl
                rotate_left
                · simp only [Act.put, List.setIfInBounds_toArray, List.set_cons_zero, List.set_cons_succ, i64_w, i32_w]
                  rfl
                refine pure_ (i := 10) (N := some 53) (v := undef) (a' := ?_) #[true, true, true, true, true, true, true, true, true, true, true, false, false, false, false, false, false, false, false, false, false, false, false] rfl rfl (any_of HT_.out (by kernel_rfl)) (fun _ _ _ h => h) (Or.inr ⟨by rfl, rfl⟩) ?_ ?_
                rotate_left
                · simp only [Act.put, List.setIfInBounds_toArray, List.set_cons_zero, List.set_cons_succ, i64_w, i32_w]
                  rfl
                refine pure_ (i := 11) (N := some 54) (v := undef) (a' := ?_) #[true, true, true, true, true, true, true, true, true, true, true, true, false, false, false, false, false, false, false, false, false, false, false] rfl rfl (any_of HT_.out (by kernel_rfl)) (fun _ _ _ h => h) (Or.inr ⟨by rfl, rfl⟩) ?_ ?_
                rotate_left
                · simp only [Act.put, List.setIfInBounds_toArray, List.set_cons_zero, List.set_cons_succ, i64_w, i32_w]
                  rfl
                refine pure_ (i := 12) (N := some 55) (v := undef) (a' := ?_) #[true, true, true, true, true, true, true, true, true, true, true, true, true, false, false, false, false, false, false, false, false, false, false] rfl rfl (any_of HT_.out (by kernel_rfl)) (fun _ _ _ h => h) (Or.inr ⟨by rfl, rfl⟩) ?_ ?_
                rotate_left
                · simp only [Act.put, List.setIfInBounds_toArray, List.set_cons_zero, List.set_cons_succ, i64_w, i32_w]
                  rfl
                refine pure_ (i := 13) (N := some 56) (v := undef) (a' := ?_) #[true, true, true, true, true, true, true, true, true, true, true, true, true, true, false, false, false, false, false, false, false, false, false] rfl rfl (any_of HT_.out (by kernel_rfl)) (fun _ _ _ h => h) (Or.inr ⟨by rfl, rfl⟩) ?_ ?_
                rotate_left
                · simp only [Act.put, List.setIfInBounds_toArray, List.set_cons_zero, List.set_cons_succ, i64_w, i32_w]
                  rfl
                refine pure_ (i := 14) (N := some 57) (v := undef) (a' := ?_) #[true, true, true, true, true, true, true, true, true, true, true, true, true, true, true, false, false, false, false, false, false, false, false] rfl rfl (any_of HT_.out (by kernel_rfl)) (fun _ _ _ h => h) (Or.inr ⟨by rfl, rfl⟩) ?_ ?_
                rotate_left
                · simp only [Act.put, List.setIfInBounds_toArray, List.set_cons_zero, List.set_cons_succ, i64_w, i32_w]
                  rfl
                refine pure_ (i := 15) (N := some 58) (v := undef) (a' := ?_) #[true, true, true, true, true, true, true, true, true, true, true, true, true, true, true, true, false, false, false, false, false, false, false] rfl rfl (any_of HT_.out (by kernel_rfl)) (fun _ _ _ h => h) (Or.inr ⟨by rfl, rfl⟩) ?_ ?_
                rotate_left
                · simp only [Act.put, List.setIfInBounds_toArray, List.set_cons_zero, List.set_cons_succ, i64_w, i32_w]
                  rfl
                refine pure_ (i := 16) (N := some 59) (v := undef) (a' := ?_) #[true, true, true, true, true, true, true, true, true, true, true, true, true, true, true, true, true, false, false, false, false, false, false] rfl rfl (any_of HT_.out (by kernel_rfl)) (fun _ _ _ h => h) (Or.inr ⟨by rfl, rfl⟩) ?_ ?_
                rotate_left
                · simp only [Act.put, List.setIfInBounds_toArray, List.set_cons_zero, List.set_cons_succ, i64_w, i32_w]
                  rfl
                refine pure_ (i := 17) (N := some 60) (v := undef) (a' := ?_) #[true, true, true, true, true, true, true, true, true, true, true, true, true, true, true, true, true, true, false, false, false, false, false] rfl rfl (any_of HT_.out (by kernel_rfl)) (fun _ _ _ h => h) (Or.inr ⟨by rfl, rfl⟩) ?_ ?_
                rotate_left
                · simp only [Act.put, List.setIfInBounds_toArray, List.set_cons_zero, List.set_cons_succ, i64_w, i32_w]
                  rfl
                refine pure_ (i := 18) (N := some 61) (v := undef) (a' := ?_) #[true, true, true, true, true, true, true, true, true, true, true, true, true, true, true, true, true, true, true, false, false, false, false] rfl rfl (any_of HT_.out (by kernel_rfl)) (fun _ _ _ h => h) (Or.inr ⟨by rfl, rfl⟩) ?_ ?_
                rotate_left
                · simp only [Act.put, List.setIfInBounds_toArray, List.set_cons_zero, List.set_cons_succ, i64_w, i32_w]
                  rfl
                refine pure_ (i := 19) (N := some 62) (v := undef) (a' := ?_) #[true, true, true, true, true, true, true, true, true, true, true, true, true, true, true, true, true, true, true, true, false, false, false] rfl rfl (any_of HT_.out (by kernel_rfl)) (fun _ _ _ h => h) (Or.inr ⟨by rfl, rfl⟩) ?_ ?_
                rotate_left
                · simp only [Act.put, List.setIfInBounds_toArray, List.set_cons_zero, List.set_cons_succ, i64_w, i32_w]
                  rfl
                refine pure_ (i := 20) (N := some 63) (v := undef) (a' := ?_) #[true, true, true, true, true, true, true, true, true, true, true, true, true, true, true, true, true, true, true, true, true, false, false] rfl rfl (any_of HT_.out (by kernel_rfl)) (fun _ _ _ h => h) (Or.inr ⟨by rfl, rfl⟩) ?_ ?_
                rotate_left
                · simp only [Act.put, List.setIfInBounds_toArray, List.set_cons_zero, List.set_cons_succ, i64_w, i32_w]
                  rfl
                refine pure_ (i := 21) (N := some 64) (v := undef) (a' := ?_) #[true, true, true, true, true, true, true, true, true, true, true, true, true, true, true, true, true, true, true, true, true, true, false] rfl rfl (any_of HT_.out (by kernel_rfl)) (fun _ _ _ h => h) (Or.inr ⟨by rfl, rfl⟩) ?_ ?_
                rotate_left
                · simp only [Act.put, List.setIfInBounds_toArray, List.set_cons_zero, List.set_cons_succ, i64_w, i32_w]
                  rfl
                refine pure_ (i := 22) (N := some 65) (v := ?_) (a' := ?_) #[true, true, true, true, true, true, true, true, true, true, true, true, true, true, true, true, true, true, true, true, true, true, true] rfl rfl (any_of HT_.out (by kernel_rfl)) (fun _ _ _ h => h) (Or.inl ⟨by rfl, ?_⟩) ?_ ?_
                rotate_left
                · intro w'
                  go_simp
                  with_reducible rfl
                rotate_left
                · simp only [Act.put, List.setIfInBounds_toArray, List.set_cons_zero, List.set_cons_succ, i64_w, i32_w]
                  rfl
                refine done_ (done_of HT_.out (by kernel_rfl)) ?_
                try go_wp2
                go_ret
                exact ⟨by first | rfl | (simp [errW_none, errW_some] <;> rfl) | (simp [*, errW_none, errW_some] <;> rfl), by repeat (first | (with_reducible first | exact HB.out | apply below_alloc | apply pw_below_drewN | apply below_drew1) | exact HB.out)⟩
            · replace c12 := Bool.eq_false_iff.mpr c12
              subst c12
              have H1 : (sennitlaw08_MergeCarries.l0 k1 l0 l1 t101 t103 x8_1 (wrap64 (x9_1 + 1))) = some r := by rw [if_neg (show ¬ (false = true) by decide)] at H; exact H
              clear H
              have H := H1
              clear H1
              have H' := Aside0.mk H
              clear H
              obtain ⟨Ao24, co24, eo24⟩ := Kd.N_slice HO_6.out
              subst eo24
              have p107 : 0 ≤ (x9_1 : Int) := of_decide_eq_true (by first | (with_reducible assumption) | assumption)
              have q107 : x9_1 < (t103.length : Int) := of_decide_eq_true (by first | (with_reducible assumption) | assumption)
              obtain ⟨ad107, A107_1, c107_1, A107_2, c107_2, A107_3, c107_3, e107, hx107_0, hx107_1, hx107_2, hx107_3, hl107_1, hi107_1, hl107_2, hi107_2, hl107_3, hi107_3⟩ := at_T33 (Kd.N_reads' HO_6.out).2.2 x9_1 p107 q107
              (try rw [← Nbq11.out] at hx107_0)
              cases e107
              obtain ⟨ce107, hce107, hMe107, hcc107⟩ := Kd.N_get HO_6.out z33 x9_1 p107 (by first | exact q107 | exact of_decide_eq_true (by first | (with_reducible assumption) | assumption) | (have e_ := (Kd.N_reads' HO_6.out).1; omega))
              obtain ⟨ua107_1, uc107_1, ua107_2, uc107_2, ua107_3, uc107_3, rfl, ul107_1, ge107_1, ul107_2, ge107_2, ul107_3, ge107_3⟩ := k33_openF hMe107
              have hv107_1 := hcc107 1 _ rfl
              rw [add_field _ _ 1 (by omega)] at hv107_1
              replace hv107_1 := Option.some.inj (hv107_1.symm.trans hx107_1)
              injection hv107_1 with hva_ hvn_ hvc_
              rw [hva_] at ge107_1
              rw [hvc_] at ul107_1
              have HL107_1 := Aside0.mk (show Kd.V Kd.string 9 _ w.heap.size _ _ ((rd_T33 t103 x9_1).f1) from Kd.V_mk ul107_1 ge107_1)
              clear hva_ hvn_ hvc_ ge107_1 ul107_1
              have hv107_2 := hcc107 2 _ rfl
              rw [add_field _ _ 2 (by omega)] at hv107_2
              replace hv107_2 := Option.some.inj (hv107_2.symm.trans hx107_2)
              injection hv107_2 with hva_ hvn_ hvc_
              rw [hva_] at ge107_2
              rw [hvc_] at ul107_2
              have HL107_2 := Aside0.mk (show Kd.V Kd.string 9 _ w.heap.size _ _ ((rd_T33 t103 x9_1).f2) from Kd.V_mk ul107_2 ge107_2)
              clear hva_ hvn_ hvc_ ge107_2 ul107_2
              have hv107_3 := hcc107 3 _ rfl
              rw [add_field _ _ 3 (by omega)] at hv107_3
              replace hv107_3 := Option.some.inj (hv107_3.symm.trans hx107_3)
              injection hv107_3 with hva_ hvn_ hvc_
              rw [hva_] at ge107_3
              rw [hvc_] at ul107_3
              have HL107_3 := Aside0.mk (show Kd.V (Kd.slice 9 Kd.string) 22 _ w.heap.size _ _ ((rd_T33 t103 x9_1).f3) from Kd.V_mk ul107_3 ge107_3)
              clear hva_ hvn_ hvc_ ge107_3 ul107_3
              clear hcc107 hce107
              have HR107_1 := Aside0.mk hi107_1
              have HC107_1 := Aside0.mk hl107_1
              clear hi107_1 hl107_1
              have HR107_2 := Aside0.mk hi107_2
              have HC107_2 := Aside0.mk hl107_2
              clear hi107_2 hl107_2
              have HR107_3 := Aside0.mk hi107_3
              have HC107_3 := Aside0.mk hl107_3
              clear hi107_3 hl107_3
              replace p107 := eq_true p107
              replace q107 := eq_true q107
              go_wp2
              go_roundg k1
              case measure => have := HK1.out; omega
              case rel => exact ⟨(x8_1), (wrap64 (x9_1 + 1)), (by first | rfl | (simp; done) | (simp [*]; done)), (by first | rfl | (simp; done) | (simp [*]; done)), H', ⟨by have := HK1.out; omega⟩, ⟨by (with_reducible repeat (first | apply Kd.N_alloc | apply Kd.N_drewN | apply Kd.N_drew)); exact HO_6.out⟩, ⟨by repeat (first | (with_reducible first | exact HB.out | apply below_alloc | apply pw_below_drewN | apply below_drew1) | exact HB.out)⟩⟩
          · rw [if_neg c10] at H
            exact absurd H (by simp)
        · rw [if_neg c9] at H
          have c9b0 : decide (x9_1 < (t103.length : Int)) = false := decide_eq_false c9
          clear c9
          by_cases c25 : t101 = true
          · subst c25
            have H1 : (some (decide (x8_1 ≤ (l0.length : Int)))) = some r := by rw [if_pos rfl] at H; exact H
            clear H
            have H := H1
            clear H1
            obtain rfl := Option.some.inj H
            obtain ⟨Ao26, co26, eo26⟩ := Kd.N_slice HO_6.out
            subst eo26
            go_wp2
            go_ret
            exact ⟨by first | rfl | (simp [errW_none, errW_some] <;> rfl) | (simp [*, errW_none, errW_some] <;> rfl), by repeat (first | (with_reducible first | exact HB.out | apply below_alloc | apply pw_below_drewN | apply below_drew1) | exact HB.out)⟩
          · replace c25 := Bool.eq_false_iff.mpr c25
            subst c25
            have H1 : (some false) = some r := by rw [if_neg (show ¬ (false = true) by decide)] at H; exact H
            clear H
            have H := H1
            clear H1
            obtain rfl := Option.some.inj H
            obtain ⟨Ao27, co27, eo27⟩ := Kd.N_slice HO_6.out
            subst eo27
            go_wp2
            go_ret
            exact ⟨by first | rfl | (simp [errW_none, errW_some] <;> rfl) | (simp [*, errW_none, errW_some] <;> rfl), by repeat (first | (with_reducible first | exact HB.out | apply below_alloc | apply pw_below_drewN | apply below_drew1) | exact HB.out)⟩
  · replace c5 := Bool.eq_false_iff.mpr c5
    subst c5
    have H1 : (some t101) = some r := by rw [if_neg (show ¬ (false = true) by decide)] at H; exact H
    clear H
    have H := H1
    clear H1
    obtain rfl := Option.some.inj H
    go_enter Try.func3, Try.ntmps3
    go_wp2_with (first | ((with_reducible refine gate_callee (f := 4) rfl ?_); refine goesL_ (some 10) rfl rfl Try.func4 (by kernel_rfl) rfl #[] rfl (by (try simp only [List.map_toArray, List.map_cons, List.map_nil]); first | done | rfl | (simp only [List.length_drop, List.length_take]; rfl)) ?_; (with_reducible refine (sennitlaw08_awake.calls  t101 _ A3.out).mono ?_); rintro e w28 ⟨rfl, hb⟩; refine ⟨_, rfl, ?_⟩; have n0_ := Aside0.mk (below_step (by repeat (first | (with_reducible first | exact HB.out | apply below_alloc | apply pw_below_drewN | apply below_drew1) | exact HB.out)) hb); clear HB; have HB := n0_; clear n0_; (try clear hb); (try clear hb2); (try clear hk); (try clear hi)) | ((with_reducible refine gate_callee (f := 5) rfl ?_); refine goesL_ (some 13) rfl rfl Try.func5 (by kernel_rfl) rfl #[.slice A0 l0.length c0, .slice A1 l1.length c1] rfl (by (try simp only [List.map_toArray, List.map_cons, List.map_nil]); first | done | rfl | (simp only [List.length_drop, List.length_take]; rfl)) ?_; (with_reducible refine (sennitref08_May.calls k _ _ l0 _ _ l1 false _ ?side1 ?side2 ?side3 ?side4 A4.out).mono ?_); (case side1 => repeat (first | exact (Kd.C_below HR0.out HB.out) | (with_reducible refine Kd.C_alloc ?_ _) | (with_reducible refine Kd.C_drewN ?_ _) | (with_reducible refine Kd.C_drew ?_))); (case side2 => exact HC0.out); (case side3 => repeat (first | exact (Kd.C_below HR1.out HB.out) | (with_reducible refine Kd.C_alloc ?_ _) | (with_reducible refine Kd.C_drewN ?_ _) | (with_reducible refine Kd.C_drew ?_))); (case side4 => exact HC1.out); rintro e w' ⟨rfl, ⟨nd, rfl⟩⟩; refine ⟨_, rfl, ?_⟩))
    go_ret
    exact ⟨by first | rfl | (simp [errW_none, errW_some] <;> rfl) | (simp [*, errW_none, errW_some] <;> rfl), by repeat (first | (with_reducible first | exact HB.out | apply below_alloc | apply pw_below_drewN | apply below_drew1) | exact HB.out)⟩

end Go.Proofs.Ytbbhdbeaikclcaa.X
-- part XMRef
namespace Go.Proofs.Ytbbhdbeaikclcaa.X
open Go.RowKit Go.Proofs.YtbbhdbeaikclcaaW.PrintWords Go.Proofs.YtbbhdbeaikclcaaW.PrintLast Go.Proofs.YtbbhdbeaikclcaaW.PrintMore
set_option linter.unusedVariables false
set_option linter.unusedSimpArgs false
theorem ref_same01_l0 (a b : List ByteArray) (hl : a.length = b.length) (hm : a.length ≤ 1000000000) : ∀ (r i : Nat), i + r = a.length → Gives (fun k => sennitref01_Same.l0 k a b (i : Int)) (decide (a.drop i = b.drop i))
  | 0, i, hi => Gives.of fun k => by
    show sennitref01_Same.l0 (k + 1) a b (i : Int) = _
    rw [sennitref01_Same.l0, if_neg (by omega), List.drop_of_length_le (by omega), List.drop_of_length_le (by omega)]
    simp
  | r + 1, i, hi => by
    have ha := dropCons (l := a) (i := i) (by omega)
    have hb := dropCons (l := b) (i := i) (by omega)
    by_cases e : a[i] = b[i]
    · refine ((ref_same01_l0 a b hl hm r (i + 1) (by omega)).eq ?_).step fun k => ?_
      · simp only [ha, hb, e, List.cons.injEq, true_and]
      · show sennitref01_Same.l0 (k + 1) a b (i : Int) = _
        rw [sennitref01_Same.l0, if_pos (by omega), if_pos (by omega), if_pos (by omega), rdOfN (by omega), rdOfN (by omega), if_pos (strEq.2 e), gw1 (by omega)]
    · refine Gives.of fun k => ?_
      show sennitref01_Same.l0 (k + 1) a b (i : Int) = _
      rw [sennitref01_Same.l0, if_pos (by omega), if_pos (by omega), if_pos (by omega), rdOfN (by omega), rdOfN (by omega), if_neg (fun h => e (strEq.1 h))]
      simp only [ha, hb, e, List.cons.injEq, false_and, decide_false]
theorem ref_same01 (a b : List ByteArray) (hm : a.length ≤ 1000000000) : Gives (fun k => sennitref01_Same.f k a b) (decide (a = b)) := by
  by_cases h : a.length = b.length
  · refine (ref_same01_l0 a b h hm a.length 0 (by omega)).same fun k => ?_
    show sennitref01_Same.f k a b = _
    rw [sennitref01_Same.f, if_pos (by omega)]; rfl
  · refine Gives.pure fun k => ?_
    show sennitref01_Same.f k a b = _
    have : ¬ a = b := fun e => h (by rw [e])
    rw [sennitref01_Same.f, if_neg (by omega), decide_eq_false this]

/-- So many texts, of 100 bytes, at most. -/
def fewB (l : List ByteArray) (n : Nat) : Bool := decide (l.length ≤ n ∧ ∀ s ∈ l, s.size ≤ 100)
theorem ref_few01_l0 (l : List ByteArray) (n : Nat) (hn : n ≤ 1000000) : ∀ (r i k : Nat), i + r = n + 1 → 2 * r + 2 ≤ k → sennitref01_Few.l0 k l (n : Int) (i : Int) = some (decide (l.length ≤ n ∧ ∀ s ∈ l.drop i, s.size ≤ 100))
  | 0, i, k + 2, hi, hk => by
    have e : ((l.length : Int) ≤ (n : Int)) = (l.length ≤ n) := by simp
    rw [sennitref01_Few.l0]
    by_cases h : (i : Int) < l.length
    · rw [if_pos h, decide_eq_false (show ¬ ((i : Int) ≤ (n : Int)) by omega), sennitref01_Few.j1, if_neg (by decide), decide_eq_false (by omega), decide_eq_false (by omega)]
    · rw [if_neg h, sennitref01_Few.j1, if_neg (by decide), List.drop_of_length_le (by omega)]
      simp
  | r + 1, i, k + 2, hi, hk => by
    rw [sennitref01_Few.l0]
    by_cases h : (i : Int) < l.length
    · have hd : l.drop i = l[i] :: l.drop (i + 1) := List.drop_eq_getElem_cons (by omega)
      rw [if_pos h, decide_eq_true (show ((i : Int) ≤ (n : Int)) by omega), sennitref01_Few.j1, if_pos rfl, if_pos (by omega), if_pos h, rdOfN (by omega), hd]
      by_cases h2 : 100 < l[i].size
      · rw [if_pos (by omega), decide_eq_false]
        rintro ⟨_, h3⟩
        have := h3 l[i] List.mem_cons_self
        omega
      · rw [if_neg (by omega), gw1 (by omega)]
        have := ref_few01_l0 l n hn r (i + 1) k (by omega) (by omega)
        rw [this]
        simp only [List.forall_mem_cons, show l[i].size ≤ 100 from by omega, true_and]
    · rw [if_neg h, sennitref01_Few.j1, if_neg (by decide), List.drop_of_length_le (by omega)]
      simp
theorem ref_few01 (l : List ByteArray) (n : Nat) (hn : n ≤ 1000000) : Gives (fun k => sennitref01_Few.f k l (n : Int)) (fewB l n) :=
  ⟨2 * (n + 1) + 2, fun k hk => by
    have := ref_few01_l0 l n hn (n + 1) 0 k (by omega) hk
    simpa [sennitref01_Few.f, fewB] using this⟩

theorem byte10 (c : UInt8) : ((c.toNat : Int) = 10) ↔ c = 10 := by
  constructor
  · intro h
    have : c.toNat = 10 := by omega
    exact UInt8.toNat_inj.1 this
  · rintro rfl; rfl
theorem index10 (u : List UInt8) : (¬ (10 : UInt8) ∈ u ∧ Lib.indexByte u 10 = -1) ∨ (∃ a b, u = a ++ 10 :: b ∧ ¬ (10 : UInt8) ∈ a ∧ Lib.indexByte u 10 = (a.length : Int)) := by
  induction u with
  | nil => left; simp [Lib.indexByte]
  | cons x xs ih =>
    simp only [Lib.indexByte]
    by_cases e : x = 10
    · right; exact ⟨[], xs, by rw [e]; rfl, by simp, by simp [e]⟩
    · have e' : (x == 10) = false := by simp [e]
      have e2 : ¬ (10 : UInt8) = x := fun h => e h.symm
      rw [e']
      rcases ih with ⟨h1, h2⟩ | ⟨a, b, h0, h1, h2⟩
      · left; simp [h1, h2, e2]
      · right
        refine ⟨x :: a, b, by rw [h0]; rfl, by simp [e2, h1], ?_⟩
        rw [if_neg (by decide), if_neg (by simp; omega), h2]
        simp
theorem closed_eq (s : ByteArray) : lineClosed s = (decide (s.data.toList.count 10 = 1) && decide (s.data.toList.getLast? = some 10)) := by
  have hs := sizeLen s
  rw [lineClosed, ← Bool.decide_and, decide_eq_decide]
  rcases index10 s.data.toList with ⟨h1, h2⟩ | ⟨a, b, h0, h1, h2⟩
  · rw [h2, List.count_eq_zero.2 h1]; omega
  · rw [h2, hs, h0, List.count_append, List.count_eq_zero.2 h1, List.count_cons_self, List.length_append, List.length_cons]
    cases b with
    | nil => simp
    | cons y t =>
      rw [List.getLast?_append, List.getLast?_cons_cons]
      constructor
      · intro ⟨_, h⟩; rw [List.length_cons] at h; omega
      · rintro ⟨h3, h4⟩
        have h5 : (y :: t).getLast? = some 10 := by
          cases hg : (y :: t).getLast? with
          | none => simp at hg
          | some z => rw [hg] at h4; exact h4
        have := List.count_pos_iff.2 (List.mem_of_getLast? h5)
        omega
theorem open_eq (s : ByteArray) : lineOpen s = (decide (0 < s.size) && decide (s.data.toList.count 10 = 0)) := by
  rw [lineOpen, ← Bool.decide_and, decide_eq_decide, List.count_eq_zero]
  rcases index10 s.data.toList with ⟨h1, h2⟩ | ⟨a, b, h0, h1, h2⟩
  · rw [h2]; simp [h1]
  · rw [h2]
    have : (10 : UInt8) ∈ s.data.toList := by rw [h0]; simp
    constructor
    · rintro ⟨h, _⟩; omega
    · rintro ⟨_, h⟩; exact absurd this h
theorem ref_feeds_l0 (s : ByteArray) (hs : s.size ≤ 1000000000) : ∀ (r i k : Nat) (n : Nat), i + r = s.size → n ≤ i → r + 1 ≤ k → sennitref01_feeds.l0 k s (n : Int) (i : Int) = some (((n + (s.data.toList.drop i).count 10 : Nat) : Int))
  | 0, i, k + 1, n, hi, hn, _ => by
    rw [sennitref01_feeds.l0, if_neg (by omega), List.drop_of_length_le (by rw [← sizeLen]; omega)]
    simp
  | r + 1, i, k + 1, n, hi, hn, hk => by
    have hd := dropCons (l := s.data.toList) (i := i) (by rw [← sizeLen]; omega)
    rw [sennitref01_feeds.l0, if_pos (by omega), if_pos (by omega), btN (by omega), hd]
    obtain ⟨c, hc⟩ : ∃ c, s.data.toList[i]'(by rw [← sizeLen]; omega) = c := ⟨_, rfl⟩
    rw [hc, gw1 (i := i) (by omega), gw1 (i := n) (by omega)]
    by_cases e : c = 10
    · rw [if_pos ((byte10 c).2 e), e, List.count_cons_self, ref_feeds_l0 s hs r (i + 1) k (n + 1) (by omega) (by omega) (by omega)]
      congr 1; omega
    · rw [if_neg (fun h => e ((byte10 c).1 h)), List.count_cons_of_ne e, ref_feeds_l0 s hs r (i + 1) k n (by omega) (by omega) (by omega)]
theorem ref_feeds (s : ByteArray) (hs : s.size ≤ 1000000000) (k : Nat) (hk : s.size + 1 ≤ k) : sennitref01_feeds.f k s = some ((s.data.toList.count 10 : Nat) : Int) := by
  have := ref_feeds_l0 s hs s.size 0 k 0 (by omega) (by omega) hk
  simpa [sennitref01_feeds.f] using this
theorem last_idx (s : ByteArray) (h : 0 < s.size) : s.data.toList.getLast? = some (s.data.toList[s.size - 1]'(by rw [← sizeLen]; omega)) := by
  rw [List.getLast?_eq_getElem?, List.getElem?_eq_getElem (by simp at h ⊢; omega)]
  simp
theorem ref_line (s : ByteArray) (hs : s.size ≤ 1000000000) (k : Nat) (hk : s.size + 1 ≤ k) : sennitref01_Line.f k s = some (lineClosed s) := by
  rw [sennitref01_Line.f, ref_feeds s hs k hk, Option.bind_some, closed_eq]
  by_cases h1 : s.data.toList.count 10 = 1
  · have hp : 0 < s.size := by
      rw [sizeLen]
      exact List.length_pos_iff.2 (fun e => by rw [e] at h1; simp at h1)
    have ew : wrap64 ((s.size : Int) - 1) = ((s.size - 1 : Nat) : Int) := by rw [gw (by omega) (by omega)]; omega
    rw [if_pos (by omega), ew, if_pos (by omega), if_pos (by omega), btN (by omega), last_idx s hp]
    congr 1
    rw [decide_eq_true h1, Bool.true_and, Bool.eq_iff_iff]
    simp only [beq_iff_eq, decide_eq_true_eq, Option.some.injEq, byte10]
  · rw [if_neg (by omega), decide_eq_false h1]
    rfl
theorem ref_may_l0 (l : List ByteArray) (hl : l.length ≤ 1000000) (M : Nat) (hM : M ≤ 1000000) (hs : ∀ s ∈ l, s.size ≤ M) : ∀ (r i k : Nat), i + r = l.length → r + M + 2 ≤ k → sennitref01_May.l0 k l (i : Int) = some (mayL (l.drop i))
  | 0, i, k + 1, hi, _ => by
    rw [sennitref01_May.l0, if_neg (by omega), List.drop_of_length_le (by omega)]
    rfl
  | r + 1, i, k + 1, hi, hk => by
    have hil : i < l.length := by omega
    have hd := dropCons hil
    have hz : l[i].size ≤ M := hs _ (List.getElem_mem _)
    have ih := ref_may_l0 l hl M hM hs r (i + 1) k (by omega) (by omega)
    have hln := ref_line l[i] (by omega) k (by omega)
    have hfd := ref_feeds l[i] (by omega) k (by omega)
    rw [sennitref01_May.l0, if_pos (by omega), rdOfN hil, gw1 (by omega), gw (x := (l.length : Int) - 1) (by omega) (by omega), hln, hfd, ih, hd]
    have hm : mayL (l[i] :: l.drop (i + 1)) = ((lineClosed l[i] || ((decide (0 < l[i].size) && decide (l[i].data.toList.count 10 = 0)) && (l.drop (i + 1)).isEmpty)) && mayL (l.drop (i + 1))) := by
      rw [mayL, open_eq]
    have hnil : ((l.drop (i + 1)).isEmpty = true) ↔ ((i : Int) = (l.length : Int) - 1) := by
      rw [List.isEmpty_iff, List.drop_eq_nil_iff]; omega
    rw [hm]
    obtain ⟨m, hm⟩ : ∃ m, mayL (l.drop (i + 1)) = m := ⟨_, rfl⟩
    obtain ⟨c, hc⟩ : ∃ c, lineClosed l[i] = c := ⟨_, rfl⟩
    rw [hm, hc]
    simp only [Option.bind_some]
    clear hm hln hfd ih hd hc
    by_cases e1 : (i : Int) = (l.length : Int) - 1
    · rw [if_pos e1, if_pos (by omega), hnil.2 e1, Bool.and_true]
      by_cases e2 : 0 < l[i].size
      · rw [if_pos (by omega), decide_eq_true e2, Bool.true_and]
        by_cases e3 : l[i].data.toList.count 10 = 0
        · rw [if_pos (by omega), decide_eq_true e3]
          cases c <;> cases m <;> rfl
        · rw [if_neg (by omega), decide_eq_false e3]
          cases c <;> cases m <;> rfl
      · rw [if_neg (by omega), decide_eq_false e2]
        cases c <;> cases m <;> rfl
    · have : (l.drop (i + 1)).isEmpty = false := by
        cases hh : (l.drop (i + 1)).isEmpty
        · rfl
        · exact absurd (hnil.1 hh) e1
      rw [if_neg e1, if_pos (by omega), this, Bool.and_false]
      cases c <;> cases m <;> rfl
theorem ref_May01 (l : List ByteArray) (hl : l.length ≤ 1000000) (hs : ∀ s ∈ l, s.size ≤ 1000000) : Gives (fun k => sennitref01_May.f k l) (mayL l) :=
  ⟨l.length + 1000000 + 2, fun k hk => by
    have := ref_may_l0 l hl 1000000 (Nat.le_refl _) hs l.length 0 k (by omega) hk
    simpa [sennitref01_May.f] using this⟩

def FewT (result : List ByteArray) (ls : List (List ByteArray)) : Prop := (result.length ≤ 16 ∧ ∀ s ∈ result, s.size ≤ 100) ∧ ls.length ≤ 6 ∧ ∀ l ∈ ls, l.length ≤ 16 ∧ ∀ s ∈ l, s.size ≤ 100
theorem ref_Few08 (result : List ByteArray) (ls : List (List ByteArray)) : ∃ b, Gives (fun k => sennitref08_Few.f k result ls) b ∧ (b = true → FewT result ls) := by
  have he : Gives (fun k => sennitref01_Few.f k result 16) (fewB result 16) := ref_few01 result 16 (by omega)
  have hlast : ∀ i : Nat, (i = ls.length ∨ i = 7) → (∀ l ∈ ls.take i, fewB l 16 = true) → ∃ b, Gives (fun k => sennitref08_Few.j1 k result ls (i : Int) false) b ∧ (b = true → fewB result 16 = true ∧ ls.length ≤ 6 ∧ ∀ l ∈ ls, fewB l 16 = true) := by
    intro i hi hP
    refine ⟨fewB result 16 && decide ((ls.length : Int) ≤ 6), Gives.last he fun k hk => ?_, fun h => ?_⟩
    · show sennitref08_Few.j1 (k + 1) result ls (i : Int) false = _
      rw [sennitref08_Few.j1, if_neg (by decide), hk, Option.bind_some]
      cases fewB result 16 <;> rfl
    · rw [Bool.and_eq_true] at h
      have h6 := of_decide_eq_true h.2
      rw [List.take_of_length_le (by omega)] at hP
      exact ⟨h.1, by omega, hP⟩
  have hmain : ∀ (r i : Nat), i + r = min ls.length 7 → (∀ l ∈ ls.take i, fewB l 16 = true) → ∃ b, Gives (fun k => sennitref08_Few.l0 k result ls (i : Int)) b ∧ (b = true → fewB result 16 = true ∧ ls.length ≤ 6 ∧ ∀ l ∈ ls, fewB l 16 = true) := by
    intro r
    induction r with
    | zero =>
      intro i hi hP
      obtain ⟨b, h1, h2⟩ := hlast i (by omega) hP
      refine ⟨b, h1.step fun k => ?_, h2⟩
      show sennitref08_Few.l0 (k + 1) result ls (i : Int) = _
      rw [sennitref08_Few.l0]
      by_cases h : i < ls.length
      · rw [if_pos (by omega), decide_eq_false (by omega)]
      · rw [if_neg (by omega)]
    | succ r ih =>
      intro i hi hP
      have hil : i < ls.length := by omega
      have e : rd_L1 ls (i : Int) = ls[i] := getN hil
      have hf := ref_few01 ls[i] 16 (by omega)
      have h0 : ∀ b, Gives (fun k => sennitref08_Few.j1 k result ls (i : Int) true) b → Gives (fun k => sennitref08_Few.l0 k result ls (i : Int)) b := fun b hb => hb.step fun k => by
        show sennitref08_Few.l0 (k + 1) result ls (i : Int) = _
        rw [sennitref08_Few.l0, if_pos (by omega), decide_eq_true (by omega)]
      cases hb : fewB ls[i] 16 with
      | true =>
        obtain ⟨b, h1, h2⟩ := ih (i + 1) (by omega) (fun l hl => by
          rw [← List.take_append_getElem hil] at hl
          rcases List.mem_append.1 hl with hl | hl
          · exact hP l hl
          · rw [List.mem_singleton.1 hl]; exact hb)
        refine ⟨b, h0 b (Gives.call hf h1 fun k hk => ?_), h2⟩
        show sennitref08_Few.j1 (k + 1) result ls (i : Int) true = _
        have hk' : sennitref01_Few.f k ls[i] 16 = some true := by rw [← hb]; exact hk
        rw [sennitref08_Few.j1, if_pos rfl, if_pos (by omega), if_pos (by omega), e, hk', Option.bind_some, if_pos rfl, gw1 (by omega)]
      | false =>
        refine ⟨false, h0 false (Gives.last hf fun k hk => ?_), fun h => by cases h⟩
        show sennitref08_Few.j1 (k + 1) result ls (i : Int) true = _
        have hk' : sennitref01_Few.f k ls[i] 16 = some false := by rw [← hb]; exact hk
        rw [sennitref08_Few.j1, if_pos rfl, if_pos (by omega), if_pos (by omega), e, hk', Option.bind_some, if_neg (by decide)]
  obtain ⟨b, h1, h2⟩ := hmain (min ls.length 7) 0 (by omega) (by simp)
  refine ⟨b, h1.same fun k => rfl, fun h => ?_⟩
  obtain ⟨h3, h4, h5⟩ := h2 h
  exact ⟨of_decide_eq_true h3, h4, fun l hl => of_decide_eq_true (h5 l hl)⟩
section
variable {result : List ByteArray} {ls : List (List ByteArray)}
theorem ref_wrong_l0 (h : ∀ l ∈ ls, l.length ≤ 2000 ∧ ∀ s ∈ l, s.size ≤ 1000000) (hn : ls.length ≤ 1000) : ∀ (r i : Nat) (m : Bool), i + r = ls.length → Gives (fun k => sennitref08_wrong.l0 k ls m false (i : Int)) (if (m && (ls.drop i).all mayL) = true then 0 else 2) := by
  intro r
  induction r with
  | zero =>
    intro i m hi
    refine Gives.of fun k => ?_
    show sennitref08_wrong.l0 (k + 1) ls m false (i : Int) = _
    rw [sennitref08_wrong.l0, if_neg (by omega), List.drop_of_length_le (by omega)]
    cases m <;> rfl
  | succ r ih =>
    intro i m hi
    have hil : i < ls.length := by omega
    have e : rd_L1 ls (i : Int) = ls[i] := getN hil
    have hz := h ls[i] (List.getElem_mem _)
    rw [dropCons hil, List.all_cons]
    cases m with
    | true =>
      have hm := ref_May01 ls[i] (by omega) hz.2
      have := ih (i + 1) (mayL ls[i]) (by omega)
      rw [Bool.true_and]
      refine Gives.call hm this fun k hk => ?_
      show sennitref08_wrong.l0 (k + 1) ls true false (i : Int) = _
      rw [sennitref08_wrong.l0, if_pos (by omega), if_pos rfl, if_pos (by omega), e, hk, Option.bind_some, if_neg (by decide), gw1 (by omega), decide_eq_false (by omega)]
    | false =>
      have := ih (i + 1) false (by omega)
      refine (this.eq rfl).step fun k => ?_
      show sennitref08_wrong.l0 (k + 1) ls false false (i : Int) = _
      rw [sennitref08_wrong.l0, if_pos (by omega), if_neg (by decide), if_neg (by decide), if_pos (by omega), e, gw1 (by omega), decide_eq_false (by omega)]
theorem ref_wrong08 (h : FewT result ls) : Gives (fun k => sennitref08_wrong.f k result ls) (wrongF mayL (result :: ls)) := by
  obtain ⟨⟨h1, h2⟩, h3, h4⟩ := h
  by_cases h0 : ls.length = 0
  · have e : wrongF mayL (result :: ls) = 1 := by rw [wrongF, if_pos (by simp; omega)]
    rw [e]
    refine (Gives.of (f := fun k => sennitref08_wrong.j0 k result ls true) fun k => ?_).same fun k => ?_
    · show sennitref08_wrong.j0 (k + 1) result ls true = _
      rw [sennitref08_wrong.j0, if_pos rfl]
    · show sennitref08_wrong.f k result ls = _
      rw [sennitref08_wrong.f, if_pos (by omega)]
  · have hl : (result :: ls).any longL = false := by
      rw [List.any_eq_false]
      intro l hl
      rcases List.mem_cons.1 hl with rfl | hl
      · simp [longL]; omega
      · have := (h4 l hl).1; simp [longL]; omega
    have e : wrongF mayL (result :: ls) = (if (mayL result && (ls.drop 0).all mayL) = true then 0 else 2) := by
      rw [wrongF, if_neg (by simp; omega), hl, if_neg (show ¬ false = true by decide), List.drop_zero]
      by_cases hm : (mayL result && ls.all mayL) = true
      · rw [if_pos hm, if_neg]
        rw [← List.all_cons (f := mayL)] at hm
        simp only [List.any_eq_true, not_exists, not_and]
        intro x hx hc
        rw [List.all_eq_true.1 hm x hx] at hc; cases hc
      · rw [if_neg hm, if_pos]
        rw [← List.all_cons (f := mayL), List.all_eq_true] at hm
        rw [List.any_eq_true]
        apply Classical.byContradiction
        intro hc
        apply hm
        intro x hx
        cases hmx : mayL x with
        | true => rfl
        | false => exact absurd ⟨x, hx, by rw [hmx]; rfl⟩ hc
    rw [e]
    have hm := ref_May01 result (by omega) (fun s hs => by have := h2 s hs; omega)
    have hw := ref_wrong_l0 (ls := ls) (fun l hl => ⟨by have := (h4 l hl).1; omega, fun s hs => by have := (h4 l hl).2 s hs; omega⟩) (by omega) ls.length 0 (mayL result) (by omega)
    refine (Gives.call hm hw (f := fun k => sennitref08_wrong.j0 k result ls false) fun k hk => ?_).same fun k => ?_
    · show sennitref08_wrong.j0 (k + 1) result ls false = _
      rw [sennitref08_wrong.j0, if_neg (by decide), hk, Option.bind_some, decide_eq_false (by omega)]; rfl
    · show sennitref08_wrong.f k result ls = _
      rw [sennitref08_wrong.f, if_neg (by omega), decide_eq_false (by omega)]
end
theorem FewT.chunks {base : List ByteArray} {sides : List (List ByteArray)} (h : FewT base sides) : chunksOk base sides = true := by
  obtain ⟨⟨h1, h2⟩, h3, h4⟩ := h
  refine decide_eq_true ⟨by omega, by omega, ?_⟩
  intro l hl
  rcases List.mem_cons.1 hl with rfl | hl
  · exact ⟨by omega, fun s hs => by have := h2 s hs; omega⟩
  · have := (h4 l hl).1
    exact ⟨by omega, fun s hs => by have := (h4 l hl).2 s hs; omega⟩
theorem FewT.merge {base : List ByteArray} {sides : List (List ByteArray)} (h : FewT base sides) (fav : Int) (un : Bool) : merge_Merge.f base sides fav un = some (mergeF base sides fav un) := by
  rw [merge_Merge.f, if_pos (mergeOkB_iff.2 (merge_ok fav un h.chunks))]
/-- May they be merged? -/
theorem ref_May08 (base : List ByteArray) (sides : List (List ByteArray)) : ∃ b, Gives (fun k => sennitref08_May.f k base sides) b ∧ (b = true → FewT base sides ∧ wrongF mayL (base :: sides) = 0) := by
  obtain ⟨b, hb, hf⟩ := ref_Few08 base sides
  cases b with
  | false =>
    refine ⟨false, Gives.last0 hb fun k hk => ?_, fun h => (by cases h)⟩
    show sennitref08_May.f k base sides = _
    rw [sennitref08_May.f, hk, Option.bind_some, if_neg (by decide)]
  | true =>
    have hF := hf rfl
    refine ⟨decide (wrongF mayL (base :: sides) = 0), Gives.call0 hb (Gives.last0 (ref_wrong08 hF) (f := fun k => (sennitref08_wrong.f k base sides).bind fun t => some (t == 0)) (r := decide (wrongF mayL (base :: sides) = 0)) fun k hk => ?_) fun k hk => ?_, fun h => ⟨hF, of_decide_eq_true h⟩⟩
    · show (sennitref08_wrong.f k base sides).bind _ = _
      rw [hk, Option.bind_some]; congr 1
    · show sennitref08_May.f k base sides = _
      rw [sennitref08_May.f, hk, Option.bind_some, if_pos rfl]
end Go.Proofs.Ytbbhdbeaikclcaa.X
-- part XMFav
namespace Go.Proofs.Ytbbhdbeaikclcaa.X
open Go.RowKit Go.Proofs.YtbbhdbeaikclcaaW.PrintWords Go.Proofs.YtbbhdbeaikclcaaW.PrintLast Go.Proofs.YtbbhdbeaikclcaaW.PrintMore
set_option linter.unusedVariables false
set_option linter.unusedSimpArgs false
def Closed (l : List ByteArray) : Prop := ∀ s ∈ l, lineClosed s = true
theorem may_append {b : List ByteArray} (hb : mayL b = true) : ∀ {a : List ByteArray}, Closed a → mayL (a ++ b) = true
  | [], _ => hb
  | s :: a, h => by
    rw [List.cons_append, mayL, h s List.mem_cons_self, Bool.true_or, Bool.true_and]
    exact may_append hb (fun x hx => h x (List.mem_cons_of_mem _ hx))
theorem Closed.may {a : List ByteArray} (h : Closed a) : mayL a = true := by
  have := may_append (b := []) rfl h
  rwa [List.append_nil] at this
theorem Closed.append {a b : List ByteArray} (h : Closed a) (k : Closed b) : Closed (a ++ b) := fun s hs => (List.mem_append.1 hs).elim (h s) (k s)
section
variable {base : List ByteArray} {sides : List (List ByteArray)}
end
end Go.Proofs.Ytbbhdbeaikclcaa.X
-- part XMPick
namespace Go.Proofs.Ytbbhdbeaikclcaa.X
open Go.RowKit Go.Proofs.YtbbhdbeaikclcaaW.PrintWords Go.Proofs.YtbbhdbeaikclcaaW.PrintLast Go.Proofs.YtbbhdbeaikclcaaW.PrintMore
set_option linter.unusedVariables false
set_option linter.unusedSimpArgs false
/-- The chunks, and their pieces. -/
abbrev chunksL (base : List ByteArray) (sides : List (List ByteArray)) : List Chunk := alignF base.length (sizesF sides) (matchesF base sides)
abbrev piecesL (base : List ByteArray) (sides : List (List ByteArray)) (fav : Int) (un : Bool) : List Piece := (chunksL base sides).map (mergePiece base sides fav un)
theorem chunksF_eq {base : List ByteArray} {sides : List (List ByteArray)} (h0 : wrongF mayL (base :: sides) = 0) : chunksF base sides = (chunksL base sides, 0) := by
  rw [chunksF, if_neg (fun h => h h0)]
theorem mergeF_eq {base : List ByteArray} {sides : List (List ByteArray)} {fav : Int} {un : Bool} (h0 : wrongF mayL (base :: sides) = 0) (hf : ¬ (fav < 0 ∨ (sides.length : Int) < fav ∨ (0 < fav ∧ un = true))) : mergeF base sides fav un = (normalF (piecesL base sides fav un), 0) := by
  rw [mergeF, chunksF_eq h0, if_neg (fun h => h rfl), if_neg hf]
theorem FewT.mergeN {base : List ByteArray} {sides : List (List ByteArray)} (h : FewT base sides) (h0 : wrongF mayL (base :: sides) = 0) {fav : Int} {un : Bool} (hf : ¬ (fav < 0 ∨ (sides.length : Int) < fav ∨ (0 < fav ∧ un = true))) : merge_Merge.f base sides fav un = some (normalF (piecesL base sides fav un), 0) := by
  rw [h.merge, mergeF_eq h0 hf]
theorem FewT.total {base : List ByteArray} {sides : List (List ByteArray)} (h : FewT base sides) : ((chunksL base sides).map (chunkN base sides)).sum ≤ 112 ∧ (chunksL base sides).length ≤ 112 := by
  obtain ⟨i1, i2, i3⟩ := tiles_ok (chunksL base sides) _ _ _ (align_tiles base sides)
  have hs := sides_sum (n := 6) (m := 16) h.2.1 (fun y hy => (h.2.2 y hy).1)
  have hb := h.1.1
  constructor <;> omega
theorem FewT.normal {base : List ByteArray} {sides : List (List ByteArray)} (h : FewT base sides) (fav : Int) (un : Bool) : (normalF (piecesL base sides fav un)).length ≤ 112 := by
  have := (tsum_normal _ (piecesL base sides fav un) rfl).2
  rw [List.length_map] at this
  exact Nat.le_trans this h.total.2
theorem tiles_parts {base : List ByteArray} {sides : List (List ByteArray)} {c : Chunk} (h : ChunkOk base sides c) : (partsF c.f2 sides).length = sides.length := partsF_len h.1
theorem chunk_ok {base : List ByteArray} {sides : List (List ByteArray)} {c : Chunk} (h : c ∈ chunksL base sides) : ChunkOk base sides c := (tiles_ok _ _ _ _ (align_tiles base sides)).1 c h
end Go.Proofs.Ytbbhdbeaikclcaa.X
