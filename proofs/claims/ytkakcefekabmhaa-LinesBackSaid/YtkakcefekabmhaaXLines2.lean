/-
  lines.cuts and its closure: by hand.
-/
import Derived.Test.YtkakcefekabmhaaXLines1
import Derived.Test.YtkakcefekabmhaaXShelf
namespace Go.Proofs.Ytkakcefekabmhaa.X
open Go.RowKit Go.Shelf Go.Proofs.YtkakcefekabmhaaW.PrintWords Go.Proofs.YtkakcefekabmhaaW.PrintLast Go.Proofs.YtkakcefekabmhaaW.PrintMore
set_option linter.unusedVariables false
set_option linter.unusedSimpArgs false
attribute [local go_sem] Oper.semAt_some

theorem w64' {x : Int} (h : -9223372036854775808 ≤ x) (h2 : x < 9223372036854775808) : wrap64 x = x := by
  unfold wrap64
  omega
theorem lines_cuts (n : Nat) (A : Option Addr) (k c : Nat) (w : World) :
    CallsIn Fence.wide n Try.prog 41 #[.slice A k c] w fun e w' => e = .returned (.func (.func 50) #[] #[.pointer (some ⟨w.heap.size, 0, none⟩)]) ∧ w' = w.alloc (.cells #[.slice A k c] 41) := by
  refine callsIn_of_wp Try.func41 rfl trivial ?_ rfl
  simp only [Try.ntmps41, List.size_toArray, List.length_cons, List.length_nil, Nat.reduceAdd, Nat.reduceSub, Array.replicate_succ, Array.replicate_zero, List.push_toArray, List.append_toArray, List.nil_append, List.cons_append]
  gi_wp2
  go_ret
  exact ⟨rfl, rfl⟩

/-- How much is left, read off the world. -/
def restLen (Bn : Nat) (W : World) : Nat := match W.cell? ⟨Bn, 0, none⟩ with | some (.slice _ n _) => n | _ => 0
theorem restLen_of {Bn : Nat} {W : World} {A : Option Addr} {n c : Nat} (h : W.cell? ⟨Bn, 0, none⟩ = some (.slice A n c)) : restLen Bn W = n := by
  simp [restLen, h]

set_option maxRecDepth 100000 in
set_option maxHeartbeats 4000000 in
theorem cuts_goes (n : Nat) (W0 : World) (Bn Bo : Nat) (hBn : W0.heap.size ≤ Bn) (hne : Bn ≠ Bo) (b : List Int) (hbl : b.length ≤ 1000000000) :
    IterGoes Fence.wide n Try.prog 50 #[.pointer (some ⟨Bn, 0, none⟩)] (fun x : Cut => #[cutVal x]) (SplitI W0 Bn Bo) (splitOk W0) splitStep (fun s => s.1 = linesT b ∧ s.2 = []) ([], b) := by
  intro l B hB hY W hI hBW
  refine callsIn_of_wp Try.func50 rfl trivial ?_ rfl
  simp only [Try.ntmps50, List.size_toArray, List.length_cons, List.length_nil, Nat.reduceAdd, Nat.reduceSub, Array.replicate_succ, Array.replicate_zero, List.push_toArray, List.append_toArray, List.nil_append, List.cons_append]
  have HB := Aside0.mk hB
  have HY := Aside0.mk hY
  have HI := Aside0.mk hI
  have HBW := Aside0.mk hBW
  clear hB hY hI hBW
  gi_wp2
  gi_loopw [] (fun wr => ∃ (t : List ByteArray) (r : List Int), Aside0 (t ++ linesT r = linesT b) ∧ t.length + r.length ≤ b.length ∧ Aside0 (SplitI W0 Bn Bo (t, r) wr) ∧ Aside0 (B wr)) (fun wr => restLen Bn wr)
  case atStart => exact ⟨[], b, ⟨rfl⟩, by simp, HI, HBW⟩
  case round =>
    obtain ⟨t, r, HT, hlen, HS, HBr⟩ := hrel
    obtain ⟨hb, ⟨A, c, hx, hrc, hC⟩, hv⟩ := HS.out
    have cN : wr.cell? ⟨Bn, 0, none⟩ = some (.slice A r.length c) := hx.cell
    dsimp only at hx hrc hC
    have Hb := Aside0.mk hb
    have Hx := Aside0.mk hx
    have Hrc := Aside0.mk hrc
    have HC := Aside0.mk hC
    clear hb hx hrc hC hv
    by_cases hr : r = []
    · subst hr
      gi_wp2
      go_end0
      refine ⟨⟨_, rfl⟩, ⟨(t, []), ⟨by have := HT.out; rwa [linesT_nil, List.append_nil] at this, rfl⟩, HS.out, HBr.out⟩⟩
    · have hpos : 0 < r.length := List.length_pos_iff.2 hr
      have b1 : decide (0 < (r.length : Int)) = true := decide_eq_true (by omega)
      have b2 : decide (0 < r.length) = true := decide_eq_true hpos
      obtain ⟨a, rfl⟩ : ∃ a, A = some a := by
        obtain ⟨a, e, _⟩ := HC.out.2.2 hpos
        exact ⟨a, e⟩
      have hidx := Calls.mono (Try.bytes_IndexByte_at a r.length c r 10 wr.drew rfl (fun i hi => by
        obtain ⟨a', e, hc⟩ := Kd.at_int (Kd.C_below HC.out Hb.out.drew) (i : Int) (by omega) (by omega)
        cases e
        rw [Int.toNat_natCast] at hc
        rw [hc, rd, Int.toNat_natCast])) (fun e w' h => h)
      rcases index_cut (Lib.bytesOf r) with ⟨hm, hk⟩ | ⟨hm, hk⟩
      · rw [show ((10 : Int).toNat.toUInt8) = 10 from rfl, hm] at hidx
        have hk' : cutU (Lib.bytesOf r) = r.length := by rw [hk, bytesOf_length]
        have hD : SplitI W0 Bn Bo (t, r) wr.drew := HS.out.drewN 1
        obtain ⟨fn, tmps, assign, body, hy, hR⟩ := HY.out (t, r) ((some a, c), r) wr.drew hD (HB.out _ _ HBr.out (⟨Nat.le_refl _, fun _ _ h _ => h⟩)) ⟨HC.out, by simp only; omega⟩
        dsimp only [cutVal] at hy
        have hrc' : r.length ≤ c := Hrc.out
        have hrcI : (r.length : Int) ≤ (c : Int) := by omega
        have hrcD : decide ((r.length : Int) ≤ (c : Int)) = true := decide_eq_true hrcI
        have hrcD2 : decide (r.length ≤ c) = true := decide_eq_true hrc'
        gi_wp2
        gi_region_with (refine ⟨trivial, fun h => (by cases h), ?_⟩; refine (callsIn_wide.2 hidx).mono ?_; rintro e w' ⟨rfl, rfl⟩)
        all_goals
          gi_wp2
          refine ⟨fun h => (by cases h), hR.mono ?_⟩
          rintro e W3 ⟨rfl, hI3, hB3⟩
          have HI3 := Aside0.mk hI3
          have HB3 := Aside0.mk hB3
          clear hI3 hB3 hy hR
          obtain ⟨hb, ⟨A', c', hx, hrc, hC⟩, hv⟩ := HI3.out
          dsimp only [splitStep] at hx hrc hC
          have c3 : W3.cell? ⟨Bn, 0, none⟩ = some (.slice A' r.length c') := hx.cell
          have z3 : W3.frozen? ⟨Bn, 0, none⟩ = false := hx.frozen
          clear hb hv hx
          gi_wp2
          go_roundw
          case measure =>
            rw [restLen_of cN, restLen_of (World.cell?_setCell_same _ _ _ c3)]
            exact hpos
          case rel =>
            have hd := Kd.C_drop (m := r.length) hC (Nat.le_refl _) hrc
            simp only [show (Kd.int IntKind.u8).sz = 1 from rfl, Nat.mul_one] at hd
            have hl0 : (r.drop r.length).length = 0 := by simp
            refine ⟨t ++ [strOfNums r], r.drop r.length, ⟨?_⟩, by simp; omega, ⟨?_⟩, ⟨HB.out _ _ HB3.out (KeepsOthers.setCell _ _ _)⟩⟩
            · rw [← HT.out, linesT_cons hr, hk', List.take_length]
              simp
            · have := HI3.out.cut hBn (c := c' - r.length) (by rw [hl0]; exact Nat.zero_le _) hd hne
              rw [hl0] at this
              exact this
      · have hkl := cutU_le (Lib.bytesOf r)
        rw [bytesOf_length] at hkl
        have hkp : 0 < cutU (Lib.bytesOf r) := cutU_pos (by simp [Lib.bytesOf, hr])
        obtain ⟨k, hke⟩ : ∃ k, cutU (Lib.bytesOf r) = k := ⟨_, rfl⟩
        rw [hke] at hk hkl hkp
        have hie : Lib.indexByte (Lib.bytesOf r) 10 = (k : Int) - 1 := by omega
        rw [show ((10 : Int).toNat.toUInt8) = 10 from rfl, hie] at hidx
        clear hm hk hie
        have hlk : (r.take k).length = k := by rw [List.length_take, Nat.min_eq_left hkl]
        have hD : SplitI W0 Bn Bo (t, r) wr.drew := HS.out.drewN 1
        obtain ⟨fn, tmps, assign, body, hy, hR⟩ := HY.out (t, r) ((some a, c), r.take k) wr.drew hD (HB.out _ _ HBr.out ⟨Nat.le_refl _, fun _ _ h _ => h⟩) ⟨Kd.C_take HC.out hkl, by simp only; omega⟩
        dsimp only [cutVal] at hy
        rw [hlk] at hy
        have hkc : k ≤ c := Nat.le_trans hkl Hrc.out
        have hkI : (k : Int) ≤ (c : Int) := by omega
        have e0 : (k : Int) - 1 + 1 = (k : Int) := by omega
        have e1 : ((k : Int) == 0) = false := by simp; omega
        have e2 : wrap64 ((k : Int) - 1 + 1) = (k : Int) ∧ IntKind.i64.wrap ((k : Int) - 1 + 1) = (k : Int) := by rw [e0]; exact ⟨w64' (by omega) (by omega), IntWalk.i64_in _ ⟨by omega, by omega⟩⟩
        obtain ⟨e3, e4⟩ := e2
        gi_wp2
        gi_region_with (refine ⟨trivial, fun h => (by cases h), ?_⟩; refine (callsIn_wide.2 hidx).mono ?_; rintro e w' ⟨rfl, rfl⟩)
        clear e3
        all_goals
          gi_wp2
          refine ⟨fun h => (by cases h), hR.mono ?_⟩
          rintro e W3 ⟨rfl, hI3, hB3⟩
          have HI3 := Aside0.mk hI3
          have HB3 := Aside0.mk hB3
          clear hI3 hB3 hy hR
          obtain ⟨hb, ⟨A', c', hx, hrc, hC⟩, hv⟩ := HI3.out
          dsimp only [splitStep] at hx hrc hC
          have c3 : W3.cell? ⟨Bn, 0, none⟩ = some (.slice A' r.length c') := hx.cell
          have z3 : W3.frozen? ⟨Bn, 0, none⟩ = false := hx.frozen
          clear hb hv hx
          gi_wp2
          go_roundw
          case measure =>
            rw [restLen_of cN, restLen_of (World.cell?_setCell_same _ _ _ c3)]
            omega
          case rel =>
            have hd := Kd.C_drop (m := k) hC hkl hrc
            simp only [show (Kd.int IntKind.u8).sz = 1 from rfl, Nat.mul_one] at hd
            have hl0 : (r.drop k).length = r.length - k := by simp
            refine ⟨t ++ [strOfNums (r.take k)], r.drop k, ⟨?_⟩, by simp; omega, ⟨?_⟩, ⟨HB.out _ _ HB3.out (KeepsOthers.setCell _ _ _)⟩⟩
            · rw [← HT.out, linesT_cons hr, hke]
              simp
            · have := HI3.out.cut hBn (c := c' - k) (by rw [hl0]; omega) hd hne
              rw [hl0] at this
              exact this
end Go.Proofs.Ytkakcefekabmhaa.X
