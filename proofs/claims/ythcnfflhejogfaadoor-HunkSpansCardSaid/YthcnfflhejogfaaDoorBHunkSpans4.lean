/-
  Parts of one proof, one behind the other: X0, XPre, XRn1, XRn2, XKit, XBlk, XGives, XHp1, XHr1, XHp2, XOpen, XRange, XShelf, XStr1, XMn1, XTexts, XMay, XHr0, XTrim.
-/
import Derived.Test.YthcnfflhejogfaaDoorBHunkSpans3
import Derived.Test.YthcnfflhejogfaaDoorProg
import Derived.Below
import Derived.Deep.Draws
import Derived.Deep.AppendLies
import Derived.Maps.AppendAt
import Derived.OwnWalk
import Derived.Laws.BytesArg
import Derived.Laws.MakeOwn
import Derived.Laws.OwnMore
import Derived.Deep.OwnRows
import Derived.Tactics
import Derived.Lib.ConvBytes
import Derived.Laws.Slices
import Derived.WalkKit
import Derived.KernelRfl
import Derived.RowKit3
import Derived.Deep.LoopGhost
import Derived.Deep.QuietTactic
import Derived.BigQuiet
import Derived.WideLaws
import Derived.Deep.DeepCutAuto
import Derived.Deep.CutBlock
import Derived.Deep.RegionHeld3
import Derived.Laws.Rows
import Derived.Lib.AppendStr
import Derived.ArgAppend
import Derived.Laws.IdiomCopy
import Derived.OrdersHeld
import Derived.Laws.BitsLemmas
import Derived.RowKit
import Derived.IntWalk
import Derived.Lib.Strings
import Derived.OpenShut
import Derived.ProofKit
import Derived.Deep.Slices
import Derived.SizedLaws
import Derived.Lib.SmallJoins
import Derived.RangeFuncNested
import Derived.RangeFuncBound
import Derived.RangeFuncCalls
import Derived.RangeFuncLeaves
import Derived.RangeFuncOwn
import Derived.Shelf.Strings.Builder1
import Derived.Shelf.Strings.Builder2
import Derived.Shelf.Strings.Trim
import Derived.Shelf.Small.Utf8
import Derived.Shelf.Small.Strs
import Derived.Shelf.Strings.BuilderF
import Derived.Shelf.Strings.BuilderK
import Derived.Shelf.Utf8.RuneCount
import Derived.Shelf.Strings.Builder2Cap
import Derived.Shelf.Strings.Search1
import Derived.Shelf.Strings.Search2
import Derived.Shelf.Strings.Search3
import Derived.Shelf.Strings.Count
import Derived.Shelf.LaysM
import Derived.Shelf.Strings.Shaped
import Derived.Shelf.Strings.Split
import Derived.Shelf.Strings.Replace
import Derived.Shelf.Strings.SplitShaped
import Derived.Shelf.Unicode.Decode
import Derived.Shelf.Strings.Runes
import Derived.Shelf.Strings.RuneCount
import Derived.Shelf.Strings.AsciiSet
import Derived.Shelf.Unicode.DecodeSlow
import Derived.Shelf.Unicode.DecodeAny
import Derived.Shelf.Unicode.DecodeLast
import Derived.Shelf.Strings.BuilderCap
import Derived.Shelf.Slices.Equal
import Derived.Shelf.Slices.Empties2
import Derived.Shelf.Strings.SlTrimAscii
-- part X0
namespace Go.Proofs.YthcnfflhejogfaaDoor.X
open Go.RowKit Go.Proofs.YthcnfflhejogfaaDoorW.PrintWords Go.Proofs.YthcnfflhejogfaaDoorW.PrintLast Go.Proofs.YthcnfflhejogfaaDoorW.PrintMore
attribute [local go_sem] max2_int min2_int max_two min_two max_three min_three max_four min_four   -- for this text's walks alone
set_option linter.unusedVariables false
set_option linter.unusedSimpArgs false
def errW : Option Int → Value
  | none => .nilIface
  | some c => .iface 0 (.int .i64 c)
theorem errW_none : errW none = .nilIface := rfl
theorem errW_some (c : Int) : errW (some c) = .iface 0 (.int .i64 c) := rfl

theorem info3 : (Tryd.prog.info? 3).map (fun i => (i.zero, i.size, i.bytes)) = some (some (.int .i64 0), 1, 8) := by kernel_rfl
theorem info4 : (Tryd.prog.info? 4).map (fun i => (i.zero, i.size, i.bytes)) = some (some (.bool false), 1, 1) := by kernel_rfl
theorem info9 : (Tryd.prog.info? 9).map (fun i => (i.zero, i.size, i.bytes)) = some (some (.string ⟨#[]⟩), 1, 16) := by kernel_rfl
theorem info45 : (Tryd.prog.info? 45).map (fun i => (i.zero, i.size, i.bytes)) = some (some (.agg #[(.int .i64 0), (.int .i64 0)]), 2, 16) := by kernel_rfl
theorem info48 : (Tryd.prog.info? 48).map (fun i => (i.zero, i.size, i.bytes)) = some (some (.agg #[(.slice none 0 0), (.int .i64 0), (.int .i64 0), (.slice none 0 0)]), 4, 64) := by kernel_rfl
theorem info57 : (Tryd.prog.info? 57).map (fun i => (i.zero, i.size, i.bytes)) = some (some (.agg #[(.string ⟨#[]⟩), (.string ⟨#[]⟩)]), 2, 32) := by kernel_rfl
structure S45 where
  f0 : Int
  f1 : Int
def z45 : S45 := ⟨(0 : Int), (0 : Int)⟩
def k45 : Kd S45 := Kd.iso (Kd.pair (Kd.int .i64) (Kd.int .i64)) (fun x : S45 => (x.f0, x.f1))
theorem k45_open {w : World} {x : S45} {cs : List Value} (h : k45.K w x cs) : cs = [.int .i64 x.f0, .int .i64 x.f1] := by
  obtain ⟨_, _, rfl, rfl, rfl⟩ := h
  exact rfl
theorem k45_openM {w : World} {base : Nat} {ok : Nat → Prop} {x : S45} {cs : List Value} (h : k45.M w base ok x cs) : cs = [.int .i64 x.f0, .int .i64 x.f1] := by
  obtain ⟨_, _, rfl, rfl, rfl⟩ := h
  exact rfl
theorem k45_mk (w : World) (x : S45)  : k45.K w x [.int .i64 x.f0, .int .i64 x.f1] := ⟨[.int .i64 x.f0], [.int .i64 x.f1], rfl, rfl, rfl⟩
theorem k45_mkM (w : World) (base : Nat) (ok : Nat → Prop) (x : S45)  : k45.M w base ok x [.int .i64 x.f0, .int .i64 x.f1] := ⟨[.int .i64 x.f0], [.int .i64 x.f1], rfl, rfl, rfl⟩
def rd_T45 (xs : List S45) (i : Int) : S45 := xs.getD i.toNat z45
theorem at_T45 {w : World} {A : Option Addr} {n : Nat} {xs : List S45} (h : Kd.C k45 w A n xs) (i : Int) (h0 : 0 ≤ i) (h1 : i < n) : ∃ ad , A = some ad ∧ w.cell? (ad.add (i.toNat * 2)) = some (.int .i64 (rd_T45 xs i).f0) ∧ w.cell? ⟨(ad.add (i.toNat * 2)).block, (ad.add (i.toNat * 2)).off + 1, none⟩ = some (.int .i64 (rd_T45 xs i).f1) := by
  obtain ⟨ad, c, e, _, hK, hc0⟩ := Kd.C_get h z45 i h0 h1
  have hc : ∀ j u, c[j]? = some u → w.cell? (ad.add (i.toNat * 2 + j)) = some u := hc0
  obtain rfl := k45_open hK
  exact ⟨ad, e, hc 0 _ rfl, by rw [← add_field _ _ 1 (by omega)]; exact hc 1 _ rfl⟩

structure S57 where
  f0 : ByteArray
  f1 : ByteArray
def z57 : S57 := ⟨(⟨#[]⟩ : ByteArray), (⟨#[]⟩ : ByteArray)⟩
def k57 : Kd S57 := Kd.iso (Kd.pair Kd.string Kd.string) (fun x : S57 => (x.f0, x.f1))
theorem k57_heap : Kd.Heap k57 := Kd.heap_iso _ (Kd.heap_pair Kd.heap_string Kd.heap_string)
theorem k57_open {w : World} {x : S57} {cs : List Value} (h : k57.K w x cs) : cs = [.string x.f0, .string x.f1] := by
  obtain ⟨_, _, rfl, rfl, rfl⟩ := h
  exact rfl
theorem k57_mk (w : World) (x : S57)  : k57.K w x [.string x.f0, .string x.f1] := ⟨[.string x.f0], [.string x.f1], rfl, rfl, rfl⟩
theorem k57_mkM (w : World) (base : Nat) (ok : Nat → Prop) (x : S57)  : k57.M w base ok x [.string x.f0, .string x.f1] := ⟨[.string x.f0], [.string x.f1], rfl, rfl, rfl⟩
def rd_T57 (xs : List S57) (i : Int) : S57 := xs.getD i.toNat z57
theorem at_T57 {w : World} {A : Option Addr} {n : Nat} {xs : List S57} (h : Kd.C k57 w A n xs) (i : Int) (h0 : 0 ≤ i) (h1 : i < n) : ∃ ad , A = some ad ∧ w.cell? (ad.add (i.toNat * 2)) = some (.string (rd_T57 xs i).f0) ∧ w.cell? ⟨(ad.add (i.toNat * 2)).block, (ad.add (i.toNat * 2)).off + 1, none⟩ = some (.string (rd_T57 xs i).f1) := by
  obtain ⟨ad, c, e, _, hK, hc0⟩ := Kd.C_get h z57 i h0 h1
  have hc : ∀ j u, c[j]? = some u → w.cell? (ad.add (i.toNat * 2 + j)) = some u := hc0
  obtain rfl := k57_open hK
  exact ⟨ad, e, hc 0 _ rfl, by rw [← add_field _ _ 1 (by omega)]; exact hc 1 _ rfl⟩

structure S48 where
  f0 : (List S45)
  f1 : S45
  f2 : (List S57)
def z48 : S48 := ⟨([] : List S45), z45, ([] : List S57)⟩
def k48 : Kd S48 := Kd.iso (Kd.pair (Kd.slice 45 k45) (Kd.pair k45 (Kd.slice 57 k57))) (fun x : S48 => (x.f0, x.f1, x.f2))
theorem k48_open {w : World} {x : S48} {cs : List Value} (h : k48.K w x cs) : ∃ A0 c0 A3 c3, cs = [.slice A0 x.f0.length c0, .int .i64 x.f1.f0, .int .i64 x.f1.f1, .slice A3 x.f2.length c3] ∧ x.f0.length ≤ c0 ∧ k45.C w A0 x.f0.length x.f0 ∧ x.f2.length ≤ c3 ∧ k57.C w A3 x.f2.length x.f2 := by
  obtain ⟨_, _, rfl, ⟨A0, c0, rfl, l0, g0⟩, ⟨_, _, rfl, s1, ⟨A3, c3, rfl, l3, g3⟩⟩⟩ := h
  obtain rfl := k45_open s1
  exact ⟨A0, c0, A3, c3, rfl, l0, g0, l3, g3⟩
theorem k48_mk (w : World) (x : S48) {A0 : Option Addr} {c0 : Nat} (l0 : x.f0.length ≤ c0) (g0 : k45.C w A0 x.f0.length x.f0) {A3 : Option Addr} {c3 : Nat} (l3 : x.f2.length ≤ c3) (g3 : k57.C w A3 x.f2.length x.f2) : k48.K w x [.slice A0 x.f0.length c0, .int .i64 x.f1.f0, .int .i64 x.f1.f1, .slice A3 x.f2.length c3] := ⟨[.slice A0 x.f0.length c0], [.int .i64 x.f1.f0, .int .i64 x.f1.f1, .slice A3 x.f2.length c3], rfl, ⟨A0, c0, rfl, l0, g0⟩, ⟨[.int .i64 x.f1.f0, .int .i64 x.f1.f1], [.slice A3 x.f2.length c3], rfl, (k45_mk w x.f1 ), ⟨A3, c3, rfl, l3, g3⟩⟩⟩
theorem k48_openF {W : World} {ok : Nat → Prop} {x : S48} {cs : List Value} (h : Kd.FK k48 W ok x cs) : ∃ A0 c0 A3 c3, cs = [.slice A0 x.f0.length c0, .int .i64 x.f1.f0, .int .i64 x.f1.f1, .slice A3 x.f2.length c3] ∧ x.f0.length ≤ c0 ∧ Kd.F k45 W ok A0 x.f0.length x.f0 ∧ x.f2.length ≤ c3 ∧ Kd.F k57 W ok A3 x.f2.length x.f2 := by
  obtain ⟨A0, c0, A3, c3, rfl, l0, _, l3, _⟩ := k48_open (Kd.FK_now h)
  exact ⟨A0, c0, A3, c3, rfl, l0, (fun W' hW => by obtain ⟨A0_, c0_, A3_, c3_, he, l0_, g0_, l3_, g3_⟩ := k48_open (h W' hW); injection (Option.some.inj (show some (Value.slice A0 x.f0.length c0) = some (Value.slice A0_ x.f0.length c0_) from congrArg (fun l => l[0]?) he)) with ha_ _ _; rw [ha_]; exact g0_), l3, (fun W' hW => by obtain ⟨A0_, c0_, A3_, c3_, he, l0_, g0_, l3_, g3_⟩ := k48_open (h W' hW); injection (Option.some.inj (show some (Value.slice A3 x.f2.length c3) = some (Value.slice A3_ x.f2.length c3_) from congrArg (fun l => l[3]?) he)) with ha_ _ _; rw [ha_]; exact g3_)⟩
theorem k48_mkF (W : World) (ok : Nat → Prop) (x : S48) {A0 : Option Addr} {c0 : Nat} (l0 : x.f0.length ≤ c0) (g0 : Kd.F k45 W ok A0 x.f0.length x.f0) {A3 : Option Addr} {c3 : Nat} (l3 : x.f2.length ≤ c3) (g3 : Kd.F k57 W ok A3 x.f2.length x.f2) : Kd.FK k48 W ok x [.slice A0 x.f0.length c0, .int .i64 x.f1.f0, .int .i64 x.f1.f1, .slice A3 x.f2.length c3] := fun W2 hW => k48_mk W2 x l0 (g0 W2 hW) l3 (g3 W2 hW)
def rd_T48 (xs : List S48) (i : Int) : S48 := xs.getD i.toNat z48
theorem at_T48 {w : World} {A : Option Addr} {n : Nat} {xs : List S48} (h : Kd.C k48 w A n xs) (i : Int) (h0 : 0 ≤ i) (h1 : i < n) : ∃ ad A0 c0 A3 c3, A = some ad ∧ w.cell? (ad.add (i.toNat * 4)) = some (.slice A0 (rd_T48 xs i).f0.length c0) ∧ w.cell? ⟨(ad.add (i.toNat * 4)).block, (ad.add (i.toNat * 4)).off + 1, none⟩ = some (.int .i64 (rd_T48 xs i).f1.f0) ∧ w.cell? ⟨(ad.add (i.toNat * 4)).block, (ad.add (i.toNat * 4)).off + 2, none⟩ = some (.int .i64 (rd_T48 xs i).f1.f1) ∧ w.cell? ⟨(ad.add (i.toNat * 4)).block, (ad.add (i.toNat * 4)).off + 3, none⟩ = some (.slice A3 (rd_T48 xs i).f2.length c3) ∧ (rd_T48 xs i).f0.length ≤ c0 ∧ k45.C w A0 (rd_T48 xs i).f0.length (rd_T48 xs i).f0 ∧ (rd_T48 xs i).f2.length ≤ c3 ∧ k57.C w A3 (rd_T48 xs i).f2.length (rd_T48 xs i).f2 := by
  obtain ⟨ad, c, e, _, hK, hc0⟩ := Kd.C_get h z48 i h0 h1
  have hc : ∀ j u, c[j]? = some u → w.cell? (ad.add (i.toNat * 4 + j)) = some u := hc0
  obtain ⟨A0, c0, A3, c3, rfl, l0, g0, l3, g3⟩ := k48_open hK
  exact ⟨ad, A0, c0, A3, c3, e, hc 0 _ rfl, by rw [← add_field _ _ 1 (by omega)]; exact hc 1 _ rfl, by rw [← add_field _ _ 2 (by omega)]; exact hc 2 _ rfl, by rw [← add_field _ _ 3 (by omega)]; exact hc 3 _ rfl, l0, g0, l3, g3⟩

theorem eqA45 (d : Nat) (w : World) (x0 y0 : Int) (x1 y1 : Int) :
    (Op.equalIn (d + 2) 45 (.agg #[.int .i64 x0, .int .i64 x1]) (.agg #[.int .i64 y0, .int .i64 y1])).run Tryd.prog w = .ok (x0 == y0 && (x1 == y1)) w := by
  refine eqA_of Tryd.underlying45 (by kernel_rfl) ?_
  refine eqf_cons (by rfl) (by go_simp; rfl) (by go_simp; rfl) (by go_simp) ?_
  exact eqf_last (by rfl) (by go_simp; rfl) (by go_simp; rfl) (by go_simp)
theorem eqA57 (d : Nat) (w : World) (x0 y0 : ByteArray) (x1 y1 : ByteArray) :
    (Op.equalIn (d + 2) 57 (.agg #[.string x0, .string x1]) (.agg #[.string y0, .string y1])).run Tryd.prog w = .ok (x0.toList == y0.toList && (x1.toList == y1.toList)) w := by
  refine eqA_of Tryd.underlying57 (by kernel_rfl) ?_
  refine eqf_cons (by rfl) (by go_simp; rfl) (by go_simp; rfl) (by go_simp) ?_
  exact eqf_last (by rfl) (by go_simp; rfl) (by go_simp; rfl) (by go_simp)
end Go.Proofs.YthcnfflhejogfaaDoor.X
-- part XPre
namespace Go.Proofs.YthcnfflhejogfaaDoor.X
open Go.RowKit Go.Proofs.YthcnfflhejogfaaDoorW.PrintWords
section
variable {P : Program} {ops : Array Oper} {rest : List Oper} {o : Oper} {a : Act} {Q : Exit → Act → World → Prop} {W : World}
end
theorem cell_blk {W : World} {g j : Nat} {cs : Array Value} {t : TypeId} {v : Value} (h : W.heap[g]? = some (.cells cs t (0, 0))) (hj : cs[j]? = some v) : W.cell? ⟨g, j, none⟩ = some v := by
  rw [cell_of_row W g j cs t (0, 0) h, hj]
theorem heap_set_same {W : World} {g j : Nat} {cs : Array Value} {t : TypeId} {fr : Nat × Nat} (h : W.heap[g]? = some (.cells cs t fr)) (v : Value) : (W.setCell ⟨g, j, none⟩ v).heap[g]? = some (.cells (cs.setIfInBounds j v) t fr) := by
  have hlt : g < W.heap.size := (Array.getElem?_eq_some_iff.1 h).1
  rw [Array.getElem?_eq_getElem hlt] at h
  injection h with h
  simp [World.setCell, hlt, Array.getElem_modify, h]
theorem heap_set_other {W : World} {g g' j : Nat} (hne : g' ≠ g) (v : Value) : (W.setCell ⟨g, j, none⟩ v).heap[g']? = W.heap[g']? := Below.heap_setCell W ⟨g, j, none⟩ v g' hne
theorem cell_alloc_of {w : World} {a : Addr} {v : Value} (h : w.cell? a = some v) (o : Obj) : (w.alloc o).cell? a = some v :=
  (World.cell?_alloc_lt _ _ _ (World.block_lt_of_cell? w a h)).trans h
end Go.Proofs.YthcnfflhejogfaaDoor.X
-- part XRn1
namespace Go.Proofs.YthcnfflhejogfaaDoor.X
open Go.RowKit Go.Proofs.YthcnfflhejogfaaDoorW.PrintWords Go.Proofs.YthcnfflhejogfaaDoorW.PrintLast Go.Proofs.YthcnfflhejogfaaDoorW.PrintMore
attribute [local go_sem] max2_int min2_int max_two min_two max_three min_three max_four min_four   -- for this text's walks alone
set_option linter.unusedVariables false
set_option linter.unusedSimpArgs false
mutual
def sennitref21_Few.l0 : Nat → List (S57) → Int → Option (Bool)
  | 0, _, _ => none
  | k + 1, x0, x3 => if x3 < (x0.length : Int) then (sennitref21_Few.j1 k x0 x3 (decide (x3 < 41))) else (sennitref21_Few.j1 k x0 x3 false)
def sennitref21_Few.j1 : Nat → List (S57) → Int → Bool → Option (Bool)
  | 0, _, _, _ => none
  | k + 1, x0, x3, x11 => if x11 = true then (if 0 ≤ x3 then (if x3 < (x0.length : Int) then (if (((rd_T57 x0 x3).f0).size : Int) > 20 then (some false) else (if (((rd_T57 x0 x3).f1).size : Int) > 100 then (some false) else (sennitref21_Few.l0 k x0 (wrap64 (x3 + 1))))) else (none)) else (none)) else (some (decide ((x0.length : Int) ≤ 40)))
end
def sennitref21_Few.f (k : Nat) (l0 : List (S57)) : Option (Bool) := sennitref21_Few.l0 k l0 0
set_option maxHeartbeats 8000000 in
set_option maxRecDepth 100000 in
theorem sennitref21_Few.calls (k : Nat) (A0 : Option Addr) (c0 : Nat) (l0 : List (S57)) (r : Bool) (w : World) (hr0 : Kd.C k57 w A0 l0.length l0) (hc0 : l0.length ≤ c0) (h : sennitref21_Few.f k l0 = some r) :
    Calls Tryd.prog 27 #[.slice A0 l0.length c0] w fun e w' => e = .returned (.bool r) ∧ Drawn0 w w' := by
  have HR0 := Aside0.mk hr0
  have HC0 := Aside0.mk hc0
  clear hr0 hc0
  have H : (sennitref21_Few.l0 k l0 0) = some r := h
  clear h
  have H' := Aside0.mk H
  clear H
  go_enter Tryd.func27, Tryd.ntmps27
  go_wp2
  go_loopg [3] k (fun kq v3 w' => ∃ (x3_1 : Int), v3 = .int .i64 x3_1 ∧ Aside0 (sennitref21_Few.l0 kq l0 x3_1 = some r) ∧ Aside0 (kq ≤ k) ∧ Drawn0 w w')
  case atStart => exact ⟨(0), (by first | rfl | (simp; done) | (simp [*]; done)), H', ⟨Nat.le_refl _⟩, by repeat (first | exact Drawn0.refl _ | apply Drawn0.step)⟩
  case round =>
    clear H'
    obtain ⟨x3_1, rfl, HA, HK1, ⟨m1, rfl⟩⟩ := hrel
    cases gk with
    | zero => exact absurd HA.out (by simp [sennitref21_Few.l0])
    | succ k1 =>
      have H := HA.out
      clear HA
      simp only [sennitref21_Few.l0] at H
      have HC2 := Aside0.mk H
      clear H
      go_upto_region 2 with (fail)
      go_cut [11] (fun v11 wc => ∃ (kq : Nat) (x11_1 : Bool), v11 = .bool x11_1 ∧ Aside0 (sennitref21_Few.j1 kq l0 x3_1 x11_1 = some r) ∧ Aside0 (kq ≤ k1) ∧ Drawn0 w wc)
      case first =>
        have H := HC2.out
        clear HC2
        by_cases c3 : x3_1 < (l0.length : Int)
        · rw [if_pos c3] at H
          have c3b0 : decide (x3_1 < (l0.length : Int)) = true := decide_eq_true c3
          clear c3
          (first | rw [c3b0] | (simp only [i64_w, i32_w]; rw [c3b0]) | skip)
          have H' := Aside0.mk H
          clear H
          go_wp2
          go_meet
          case rel => exact ⟨_, (decide (x3_1 < 41)), (by first | rfl | (simp; done) | (simp [*]; done)), H', ⟨by have := HK1.out; first | omega | exact Nat.le_refl _⟩, by repeat (first | exact Drawn0.refl _ | apply Drawn0.step)⟩
        · rw [if_neg c3] at H
          have c3b0 : decide (x3_1 < (l0.length : Int)) = false := decide_eq_false c3
          clear c3
          (first | rw [c3b0] | (simp only [i64_w, i32_w]; rw [c3b0]) | skip)
          have H' := Aside0.mk H
          clear H
          go_wp2
          go_meet
          case rel => exact ⟨_, (false), (by first | rfl | (simp; done) | (simp [*]; done)), H', ⟨by have := HK1.out; first | omega | exact Nat.le_refl _⟩, by repeat (first | exact Drawn0.refl _ | apply Drawn0.step)⟩
      case rest =>
        clear HC2
        try clear c2
        try clear p2
        try clear c3
        try clear c3b0
        obtain ⟨kq, x11_1, rfl, HA, HJ1, ⟨mc1, rfl⟩⟩ := hcut
        cases kq with
        | zero => exact absurd HA.out (by simp [sennitref21_Few.j1])
        | succ kj1 =>
          have H := HA.out
          clear HA
          simp only [sennitref21_Few.j1] at H
          by_cases c4 : x11_1 = true
          · subst c4
            have H1 : (if 0 ≤ x3_1 then (if x3_1 < (l0.length : Int) then (if (((rd_T57 l0 x3_1).f0).size : Int) > 20 then (some false) else (if (((rd_T57 l0 x3_1).f1).size : Int) > 100 then (some false) else (sennitref21_Few.l0 kj1 l0 (wrap64 (x3_1 + 1))))) else (none)) else (none)) = some r := by rw [if_pos rfl] at H; exact H
            clear H
            have H := H1
            clear H1
            by_cases c5 : 0 ≤ x3_1
            · rw [if_pos c5] at H
              have c5b0 : decide (0 ≤ x3_1) = true := decide_eq_true c5
              clear c5
              by_cases c6 : x3_1 < (l0.length : Int)
              · rw [if_pos c6] at H
                have c6b0 : decide (x3_1 < (l0.length : Int)) = true := decide_eq_true c6
                clear c6
                by_cases c7 : (((rd_T57 l0 x3_1).f0).size : Int) > 20
                · rw [if_pos c7] at H
                  have c7b0 : decide (20 < (((rd_T57 l0 x3_1).f0).size : Int)) = true := decide_eq_true c7
                  have c7b1 : decide (20 < ((rd_T57 l0 x3_1).f0).size) = true := decide_eq_true (by omega)
                  clear c7
                  obtain rfl := Option.some.inj H
                  have p101 : 0 ≤ (x3_1 : Int) := of_decide_eq_true (by first | (with_reducible assumption) | assumption)
                  have q101 : x3_1 < (l0.length : Int) := of_decide_eq_true (by first | (with_reducible assumption) | assumption)
                  obtain ⟨ad101, e101, hx101_0, hx101_1⟩ := at_T57 HR0.out x3_1 p101 q101
                  cases e101
                  replace p101 := eq_true p101
                  replace q101 := eq_true q101
                  go_wp2
                  go_ret
                  exact ⟨by first | rfl | (simp; done) | (simp [*]; done), by repeat (first | exact Drawn0.refl _ | apply Drawn0.step)⟩
                · rw [if_neg c7] at H
                  have c7b0 : decide (20 < (((rd_T57 l0 x3_1).f0).size : Int)) = false := decide_eq_false c7
                  have c7b1 : decide (20 < ((rd_T57 l0 x3_1).f0).size) = false := decide_eq_false (by omega)
                  clear c7
                  by_cases c8 : (((rd_T57 l0 x3_1).f1).size : Int) > 100
                  · rw [if_pos c8] at H
                    have c8b0 : decide (100 < (((rd_T57 l0 x3_1).f1).size : Int)) = true := decide_eq_true c8
                    have c8b1 : decide (100 < ((rd_T57 l0 x3_1).f1).size) = true := decide_eq_true (by omega)
                    clear c8
                    obtain rfl := Option.some.inj H
                    have p101 : 0 ≤ (x3_1 : Int) := of_decide_eq_true (by first | (with_reducible assumption) | assumption)
                    have q101 : x3_1 < (l0.length : Int) := of_decide_eq_true (by first | (with_reducible assumption) | assumption)
                    obtain ⟨ad101, e101, hx101_0, hx101_1⟩ := at_T57 HR0.out x3_1 p101 q101
                    cases e101
                    replace p101 := eq_true p101
                    replace q101 := eq_true q101
                    have p102 : 0 ≤ (x3_1 : Int) := of_decide_eq_true (by first | (with_reducible assumption) | assumption)
                    have q102 : x3_1 < (l0.length : Int) := of_decide_eq_true (by first | (with_reducible assumption) | assumption)
                    obtain ⟨ad102, e102, hx102_0, hx102_1⟩ := at_T57 HR0.out x3_1 p102 q102
                    obtain rfl : ad101 = ad102 := (by injection e102)
                    replace p102 := eq_true p102
                    replace q102 := eq_true q102
                    go_wp2
                    go_ret
                    exact ⟨by first | rfl | (simp; done) | (simp [*]; done), by repeat (first | exact Drawn0.refl _ | apply Drawn0.step)⟩
                  · rw [if_neg c8] at H
                    have c8b0 : decide (100 < (((rd_T57 l0 x3_1).f1).size : Int)) = false := decide_eq_false c8
                    have c8b1 : decide (100 < ((rd_T57 l0 x3_1).f1).size) = false := decide_eq_false (by omega)
                    clear c8
                    have H' := Aside0.mk H
                    clear H
                    have p101 : 0 ≤ (x3_1 : Int) := of_decide_eq_true (by first | (with_reducible assumption) | assumption)
                    have q101 : x3_1 < (l0.length : Int) := of_decide_eq_true (by first | (with_reducible assumption) | assumption)
                    obtain ⟨ad101, e101, hx101_0, hx101_1⟩ := at_T57 HR0.out x3_1 p101 q101
                    cases e101
                    replace p101 := eq_true p101
                    replace q101 := eq_true q101
                    have p102 : 0 ≤ (x3_1 : Int) := of_decide_eq_true (by first | (with_reducible assumption) | assumption)
                    have q102 : x3_1 < (l0.length : Int) := of_decide_eq_true (by first | (with_reducible assumption) | assumption)
                    obtain ⟨ad102, e102, hx102_0, hx102_1⟩ := at_T57 HR0.out x3_1 p102 q102
                    obtain rfl : ad101 = ad102 := (by injection e102)
                    replace p102 := eq_true p102
                    replace q102 := eq_true q102
                    go_wp2
                    go_roundg kj1
                    case measure => have := HK1.out; have := HJ1.out; omega
                    case rel => exact ⟨(wrap64 (x3_1 + 1)), (by first | rfl | (simp; done) | (simp [*]; done)), H', ⟨by have := HK1.out; have := HJ1.out; omega⟩, by repeat (first | exact Drawn0.refl _ | apply Drawn0.step)⟩
              · rw [if_neg c6] at H
                exact absurd H (by simp)
            · rw [if_neg c5] at H
              exact absurd H (by simp)
          · replace c4 := Bool.eq_false_iff.mpr c4
            subst c4
            have H1 : (some (decide ((l0.length : Int) ≤ 40))) = some r := by rw [if_neg (show ¬ (false = true) by decide)] at H; exact H
            clear H
            have H := H1
            clear H1
            obtain rfl := Option.some.inj H
            go_wp2
            go_ret
            exact ⟨by first | rfl | (simp; done) | (simp [*]; done), by repeat (first | exact Drawn0.refl _ | apply Drawn0.step)⟩

def sennitref01_feeds.l0 : Nat → ByteArray → Int → Int → Option (Int)
  | 0, _, _, _ => none
  | k + 1, x0, x3, x4 => if x4 < (x0.size : Int) then (if 0 ≤ x4 then (if (bt x0 x4) = 10 then (sennitref01_feeds.l0 k x0 (wrap64 (x3 + 1)) (wrap64 (x4 + 1))) else (sennitref01_feeds.l0 k x0 x3 (wrap64 (x4 + 1)))) else (none)) else (some x3)
def sennitref01_feeds.f (k : Nat) (a0 : ByteArray) : Option (Int) := sennitref01_feeds.l0 k a0 0 0
set_option maxHeartbeats 8000000 in
set_option maxRecDepth 100000 in
theorem sennitref01_feeds.calls (k : Nat) (a0 : ByteArray) (r : Int) (w : World) (h : sennitref01_feeds.f k a0 = some r) :
    Calls Tryd.prog 51 #[.string a0] w fun e w' => e = .returned (.int .i64 r) ∧ Drawn0 w w' := by
  have H : (sennitref01_feeds.l0 k a0 0 0) = some r := h
  clear h
  have H' := Aside0.mk H
  clear H
  go_enter Tryd.func51, Tryd.ntmps51
  go_wp2
  go_loopg [3, 4] k (fun kq v3 v4 w' => ∃ (x3_1 : Int) (x4_1 : Int), v3 = .int .i64 x3_1 ∧ v4 = .int .i64 x4_1 ∧ Aside0 (sennitref01_feeds.l0 kq a0 x3_1 x4_1 = some r) ∧ Aside0 (kq ≤ k) ∧ Drawn0 w w')
  case atStart => exact ⟨(0), (0), (by first | rfl | (simp; done) | (simp [*]; done)), (by first | rfl | (simp; done) | (simp [*]; done)), H', ⟨Nat.le_refl _⟩, by repeat (first | exact Drawn0.refl _ | apply Drawn0.step)⟩
  case round =>
    clear H'
    obtain ⟨x3_1, x4_1, rfl, rfl, HA, HK1, ⟨m1, rfl⟩⟩ := hrel
    cases gk with
    | zero => exact absurd HA.out (by simp [sennitref01_feeds.l0])
    | succ k1 =>
      have H := HA.out
      clear HA
      simp only [sennitref01_feeds.l0] at H
      by_cases c2 : x4_1 < (a0.size : Int)
      · rw [if_pos c2] at H
        have c2b0 : decide (x4_1 < (a0.size : Int)) = true := decide_eq_true c2
        clear c2
        by_cases c3 : 0 ≤ x4_1
        · rw [if_pos c3] at H
          have c3b0 : decide (0 ≤ x4_1) = true := decide_eq_true c3
          clear c3
          by_cases c5 : (bt a0 x4_1) = 10
          · rw [if_pos c5] at H
            have c5b0 : ((bt a0 x4_1) == 10) = true := beq_iff_eq.mpr c5
            have c5b1 : ((bt a0 x4_1) != 10) = false := bne_eq_false_iff_eq.mpr c5
            clear c5
            have H' := Aside0.mk H
            clear H
            have p4 : 0 ≤ (x4_1 : Int) := of_decide_eq_true (by first | (with_reducible assumption) | assumption)
            have q4 : x4_1 < (a0.size : Int) := of_decide_eq_true (by first | (with_reducible assumption) | assumption)
            have hx4 := bt_at a0 x4_1
            replace p4 := eq_true p4
            replace q4 := eq_true q4
            go_wp2
            go_roundg k1
            case measure => have := HK1.out; omega
            case rel => exact ⟨(wrap64 (x3_1 + 1)), (wrap64 (x4_1 + 1)), (by first | rfl | (simp; done) | (simp [*]; done)), (by first | rfl | (simp; done) | (simp [*]; done)), H', ⟨by have := HK1.out; omega⟩, by repeat (first | exact Drawn0.refl _ | apply Drawn0.step)⟩
          · rw [if_neg c5] at H
            have c5b0 : ((bt a0 x4_1) == 10) = false := beq_eq_false_iff_ne.mpr c5
            have c5b1 : ((bt a0 x4_1) != 10) = true := bne_iff_ne.mpr c5
            have H' := Aside0.mk H
            clear H
            have p4 : 0 ≤ (x4_1 : Int) := of_decide_eq_true (by first | (with_reducible assumption) | assumption)
            have q4 : x4_1 < (a0.size : Int) := of_decide_eq_true (by first | (with_reducible assumption) | assumption)
            have hx4 := bt_at a0 x4_1
            replace p4 := eq_true p4
            replace q4 := eq_true q4
            go_wp2
            go_roundg k1
            case measure => have := HK1.out; omega
            case rel => exact ⟨(x3_1), (wrap64 (x4_1 + 1)), (by first | rfl | (simp; done) | (simp [*]; done)), (by first | rfl | (simp; done) | (simp [*]; done)), H', ⟨by have := HK1.out; omega⟩, by repeat (first | exact Drawn0.refl _ | apply Drawn0.step)⟩
        · rw [if_neg c3] at H
          exact absurd H (by simp)
      · rw [if_neg c2] at H
        have c2b0 : decide (x4_1 < (a0.size : Int)) = false := decide_eq_false c2
        clear c2
        obtain rfl := Option.some.inj H
        go_wp2
        go_ret
        exact ⟨by first | rfl | (simp; done) | (simp [*]; done), by repeat (first | exact Drawn0.refl _ | apply Drawn0.step)⟩

def sennitref01_Line.f (k : Nat) (a0 : ByteArray) : Option (Bool) := (sennitref01_feeds.f k a0).bind fun t103 => (if t103 = 1 then (if 0 ≤ (wrap64 ((a0.size : Int) - 1)) then (if (wrap64 ((a0.size : Int) - 1)) < (a0.size : Int) then (some ((bt a0 (wrap64 ((a0.size : Int) - 1))) == 10)) else (none)) else (none)) else (some false))
set_option maxHeartbeats 8000000 in
set_option maxRecDepth 100000 in
theorem sennitref01_Line.calls (k : Nat) (a0 : ByteArray) (r : Bool) (w : World) (h : sennitref01_Line.f k a0 = some r) :
    Calls Tryd.prog 52 #[.string a0] w fun e w' => e = .returned (.bool r) ∧ Drawn0 w w' := by
  have H : ((sennitref01_feeds.f k a0).bind fun t103 => (if t103 = 1 then (if 0 ≤ (wrap64 ((a0.size : Int) - 1)) then (if (wrap64 ((a0.size : Int) - 1)) < (a0.size : Int) then (some ((bt a0 (wrap64 ((a0.size : Int) - 1))) == 10)) else (none)) else (none)) else (some false))) = some r := h
  clear h
  replace H := Option.bind_eq_some_iff.mp H
  obtain ⟨t103, A20, H⟩ := H
  replace H : (if t103 = 1 then (if 0 ≤ (wrap64 ((a0.size : Int) - 1)) then (if (wrap64 ((a0.size : Int) - 1)) < (a0.size : Int) then (some ((bt a0 (wrap64 ((a0.size : Int) - 1))) == 10)) else (none)) else (none)) else (some false)) = some r := H
  have A2 := Aside0.mk A20
  clear A20
  by_cases c3 : t103 = 1
  · rw [if_pos c3] at H
    have c3b0 : (t103 == 1) = true := beq_iff_eq.mpr c3
    have c3b1 : (t103 != 1) = false := bne_eq_false_iff_eq.mpr c3
    clear c3
    obtain ⟨ji4, hji4⟩ : ∃ j_ : Int, (wrap64 ((a0.size : Int) - 1)) = j_ := ⟨_, rfl⟩
    replace H : (if 0 ≤ (ji4) then (if (ji4) < (a0.size : Int) then (some ((bt a0 (ji4)) == 10)) else (none)) else (none)) = some r := by first | (rw [hji4] at H; exact H) | (simp only [hji4] at H ⊢; exact H)
    (try rw [hji4] at A2)
    have hji4w : (IntKind.i64.wrap ((a0.size : Int) - 1)) = ji4 := (i64_w _).trans hji4
    by_cases c5 : 0 ≤ (ji4)
    · rw [if_pos c5] at H
      have c5b0 : decide (0 ≤ (ji4)) = true := decide_eq_true c5
      clear c5
      by_cases c6 : (ji4) < (a0.size : Int)
      · rw [if_pos c6] at H
        have c6b0 : decide ((ji4) < (a0.size : Int)) = true := decide_eq_true c6
        clear c6
        obtain rfl := Option.some.inj H
        go_enter Tryd.func52, Tryd.ntmps52
        go_wp2_with (first | ((with_reducible refine gate_callee (f := 51) rfl ?_); refine goesL_ (some 4) rfl rfl Tryd.func51 (by kernel_rfl) rfl #[.string a0] rfl (by (try simp only [List.map_toArray, List.map_cons, List.map_nil]); first | done | rfl | (simp only [List.length_drop, List.length_take]; rfl)) ?_; (with_reducible refine (sennitref01_feeds.calls k a0 t103 _ A2.out).mono ?_); rintro e w' ⟨rfl, ⟨nd, rfl⟩⟩; refine ⟨_, rfl, ?_⟩; have p7 : 0 ≤ ((ji4) : Int) := of_decide_eq_true (by first | (with_reducible assumption) | assumption); have q7 : (ji4) < (a0.size : Int) := of_decide_eq_true (by first | (with_reducible assumption) | assumption); have hx7 := bt_at a0 (ji4); replace p7 := eq_true p7; replace q7 := eq_true q7))
        go_ret
        exact ⟨by first | rfl | (simp; done) | (simp only [← hji4] <;> (first | rfl | simp)) | (simp [*]; done), by repeat (first | exact Drawn0.refl _ | apply Drawn0.step)⟩
      · rw [if_neg c6] at H
        exact absurd H (by simp)
    · rw [if_neg c5] at H
      exact absurd H (by simp)
  · rw [if_neg c3] at H
    have c3b0 : (t103 == 1) = false := beq_eq_false_iff_ne.mpr c3
    have c3b1 : (t103 != 1) = true := bne_iff_ne.mpr c3
    obtain rfl := Option.some.inj H
    go_enter Tryd.func52, Tryd.ntmps52
    go_wp2_with (first | ((with_reducible refine gate_callee (f := 51) rfl ?_); refine goesL_ (some 4) rfl rfl Tryd.func51 (by kernel_rfl) rfl #[.string a0] rfl (by (try simp only [List.map_toArray, List.map_cons, List.map_nil]); first | done | rfl | (simp only [List.length_drop, List.length_take]; rfl)) ?_; (with_reducible refine (sennitref01_feeds.calls k a0 t103 _ A2.out).mono ?_); rintro e w' ⟨rfl, ⟨nd, rfl⟩⟩; refine ⟨_, rfl, ?_⟩))
    go_ret
    exact ⟨by first | rfl | (simp; done) | (simp [*]; done), by repeat (first | exact Drawn0.refl _ | apply Drawn0.step)⟩

def sennitref01_May.l0 : Nat → List ByteArray → Int → Option (Bool)
  | 0, _, _ => none
  | k + 1, x0, x3 => if x3 < (x0.length : Int) then (if x3 = (wrap64 ((x0.length : Int) - 1)) then (if 0 ≤ x3 then (if ((rdOf ByteArray.empty x0 x3).size : Int) > 0 then ((sennitref01_feeds.f k (rdOf ByteArray.empty x0 x3)).bind fun t106 => (if t106 = 0 then (sennitref01_May.l0 k x0 (wrap64 (x3 + 1))) else ((sennitref01_Line.f k (rdOf ByteArray.empty x0 x3)).bind fun t108 => (if t108 = true then (sennitref01_May.l0 k x0 (wrap64 (x3 + 1))) else (some false))))) else ((sennitref01_Line.f k (rdOf ByteArray.empty x0 x3)).bind fun t110 => (if t110 = true then (sennitref01_May.l0 k x0 (wrap64 (x3 + 1))) else (some false)))) else (none)) else (if 0 ≤ x3 then ((sennitref01_Line.f k (rdOf ByteArray.empty x0 x3)).bind fun t112 => (if t112 = true then (sennitref01_May.l0 k x0 (wrap64 (x3 + 1))) else (some false))) else (none))) else (some true)
def sennitref01_May.f (k : Nat) (l0 : List ByteArray) : Option (Bool) := sennitref01_May.l0 k l0 0
set_option maxHeartbeats 8000000 in
set_option maxRecDepth 100000 in
theorem sennitref01_May.calls (k : Nat) (A0 : Option Addr) (c0 : Nat) (l0 : List ByteArray) (r : Bool) (w : World) (hr0 : Kd.C Kd.string w A0 l0.length l0) (hc0 : l0.length ≤ c0) (h : sennitref01_May.f k l0 = some r) :
    Calls Tryd.prog 25 #[.slice A0 l0.length c0] w fun e w' => e = .returned (.bool r) ∧ Drawn0 w w' := by
  have HR0 := Aside0.mk hr0
  have HC0 := Aside0.mk hc0
  clear hr0 hc0
  have H : (sennitref01_May.l0 k l0 0) = some r := h
  clear h
  have H' := Aside0.mk H
  clear H
  go_enter Tryd.func25, Tryd.ntmps25
  go_wp2
  go_loopg [3] k (fun kq v3 w' => ∃ (x3_1 : Int), v3 = .int .i64 x3_1 ∧ Aside0 (sennitref01_May.l0 kq l0 x3_1 = some r) ∧ Aside0 (kq ≤ k) ∧ Drawn0 w w')
  case atStart => exact ⟨(0), (by first | rfl | (simp; done) | (simp [*]; done)), H', ⟨Nat.le_refl _⟩, by repeat (first | exact Drawn0.refl _ | apply Drawn0.step)⟩
  case round =>
    clear H'
    obtain ⟨x3_1, rfl, HA, HK1, ⟨m1, rfl⟩⟩ := hrel
    cases gk with
    | zero => exact absurd HA.out (by simp [sennitref01_May.l0])
    | succ k1 =>
      have H := HA.out
      clear HA
      simp only [sennitref01_May.l0] at H
      by_cases c2 : x3_1 < (l0.length : Int)
      · rw [if_pos c2] at H
        have c2b0 : decide (x3_1 < (l0.length : Int)) = true := decide_eq_true c2
        clear c2
        by_cases c3 : x3_1 = (wrap64 ((l0.length : Int) - 1))
        · rw [if_pos c3] at H
          have c3b0 : (x3_1 == (wrap64 ((l0.length : Int) - 1))) = true := beq_iff_eq.mpr c3
          have c3b1 : (x3_1 != (wrap64 ((l0.length : Int) - 1))) = false := bne_eq_false_iff_eq.mpr c3
          clear c3
          by_cases c4 : 0 ≤ x3_1
          · rw [if_pos c4] at H
            have c4b0 : decide (0 ≤ x3_1) = true := decide_eq_true c4
            clear c4
            by_cases c5 : ((rdOf ByteArray.empty l0 x3_1).size : Int) > 0
            · rw [if_pos c5] at H
              have c5b0 : decide (0 < ((rdOf ByteArray.empty l0 x3_1).size : Int)) = true := decide_eq_true c5
              have c5b1 : decide (0 < (rdOf ByteArray.empty l0 x3_1).size) = true := decide_eq_true (by omega)
              clear c5
              replace H := Option.bind_eq_some_iff.mp H
              obtain ⟨t106, A60, H⟩ := H
              replace H : (if t106 = 0 then (sennitref01_May.l0 k1 l0 (wrap64 (x3_1 + 1))) else ((sennitref01_Line.f k1 (rdOf ByteArray.empty l0 x3_1)).bind fun t108 => (if t108 = true then (sennitref01_May.l0 k1 l0 (wrap64 (x3_1 + 1))) else (some false)))) = some r := H
              have A6 := Aside0.mk A60
              clear A60
              by_cases c7 : t106 = 0
              · rw [if_pos c7] at H
                have c7b0 : (t106 == 0) = true := beq_iff_eq.mpr c7
                have c7b1 : (t106 != 0) = false := bne_eq_false_iff_eq.mpr c7
                clear c7
                have H' := Aside0.mk H
                clear H
                have p104 : 0 ≤ (x3_1 : Int) := of_decide_eq_true (by first | (with_reducible assumption) | assumption)
                have q104 : x3_1 < (l0.length : Int) := of_decide_eq_true (by first | (with_reducible assumption) | assumption)
                obtain ⟨ad104, e104, hx104_0⟩ := Kd.at_string HR0.out x3_1 p104 q104
                cases e104
                replace p104 := eq_true p104
                replace q104 := eq_true q104
                have p105 : 0 ≤ (x3_1 : Int) := of_decide_eq_true (by first | (with_reducible assumption) | assumption)
                have q105 : x3_1 < (l0.length : Int) := of_decide_eq_true (by first | (with_reducible assumption) | assumption)
                obtain ⟨ad105, e105, hx105_0⟩ := Kd.at_string HR0.out x3_1 p105 q105
                obtain rfl : ad104 = ad105 := (by injection e105)
                replace p105 := eq_true p105
                replace q105 := eq_true q105
                go_wp2_with (first | (go_at_call 51; (with_reducible refine (sennitref01_feeds.calls k1 (rdOf ByteArray.empty l0 x3_1) t106 _ A6.out).mono ?_); rintro e w' ⟨rfl, ⟨nd, rfl⟩⟩))
                go_roundg k1
                case measure => have := HK1.out; omega
                case rel => exact ⟨(wrap64 (x3_1 + 1)), (by first | rfl | (simp; done) | (simp [*]; done)), H', ⟨by have := HK1.out; omega⟩, by repeat (first | exact Drawn0.refl _ | apply Drawn0.step)⟩
              · rw [if_neg c7] at H
                have c7b0 : (t106 == 0) = false := beq_eq_false_iff_ne.mpr c7
                have c7b1 : (t106 != 0) = true := bne_iff_ne.mpr c7
                replace H := Option.bind_eq_some_iff.mp H
                obtain ⟨t108, A80, H⟩ := H
                replace H : (if t108 = true then (sennitref01_May.l0 k1 l0 (wrap64 (x3_1 + 1))) else (some false)) = some r := H
                have A8 := Aside0.mk A80
                clear A80
                by_cases c9 : t108 = true
                · subst c9
                  have H1 : (sennitref01_May.l0 k1 l0 (wrap64 (x3_1 + 1))) = some r := by rw [if_pos rfl] at H; exact H
                  clear H
                  have H := H1
                  clear H1
                  have H' := Aside0.mk H
                  clear H
                  have p104 : 0 ≤ (x3_1 : Int) := of_decide_eq_true (by first | (with_reducible assumption) | assumption)
                  have q104 : x3_1 < (l0.length : Int) := of_decide_eq_true (by first | (with_reducible assumption) | assumption)
                  obtain ⟨ad104, e104, hx104_0⟩ := Kd.at_string HR0.out x3_1 p104 q104
                  cases e104
                  replace p104 := eq_true p104
                  replace q104 := eq_true q104
                  have p105 : 0 ≤ (x3_1 : Int) := of_decide_eq_true (by first | (with_reducible assumption) | assumption)
                  have q105 : x3_1 < (l0.length : Int) := of_decide_eq_true (by first | (with_reducible assumption) | assumption)
                  obtain ⟨ad105, e105, hx105_0⟩ := Kd.at_string HR0.out x3_1 p105 q105
                  obtain rfl : ad104 = ad105 := (by injection e105)
                  replace p105 := eq_true p105
                  replace q105 := eq_true q105
                  go_wp2_with (first | (go_at_call 51; (with_reducible refine (sennitref01_feeds.calls k1 (rdOf ByteArray.empty l0 x3_1) t106 _ A6.out).mono ?_); rintro e w' ⟨rfl, ⟨nd, rfl⟩⟩; have p107 : 0 ≤ (x3_1 : Int) := of_decide_eq_true (by first | (with_reducible assumption) | assumption); have q107 : x3_1 < (l0.length : Int) := of_decide_eq_true (by first | (with_reducible assumption) | assumption); obtain ⟨ad107, e107, hx107_0⟩ := Kd.at_string HR0.out x3_1 p107 q107; obtain rfl : ad104 = ad107 := (by injection e107); replace p107 := eq_true p107; replace q107 := eq_true q107) | (go_at_call 52; (with_reducible refine (sennitref01_Line.calls k1 (rdOf ByteArray.empty l0 x3_1) true _ A8.out).mono ?_); rintro e w' ⟨rfl, ⟨nd, rfl⟩⟩))
                  go_roundg k1
                  case measure => have := HK1.out; omega
                  case rel => exact ⟨(wrap64 (x3_1 + 1)), (by first | rfl | (simp; done) | (simp [*]; done)), H', ⟨by have := HK1.out; omega⟩, by repeat (first | exact Drawn0.refl _ | apply Drawn0.step)⟩
                · replace c9 := Bool.eq_false_iff.mpr c9
                  subst c9
                  have H1 : (some false) = some r := by rw [if_neg (show ¬ (false = true) by decide)] at H; exact H
                  clear H
                  have H := H1
                  clear H1
                  obtain rfl := Option.some.inj H
                  have p104 : 0 ≤ (x3_1 : Int) := of_decide_eq_true (by first | (with_reducible assumption) | assumption)
                  have q104 : x3_1 < (l0.length : Int) := of_decide_eq_true (by first | (with_reducible assumption) | assumption)
                  obtain ⟨ad104, e104, hx104_0⟩ := Kd.at_string HR0.out x3_1 p104 q104
                  cases e104
                  replace p104 := eq_true p104
                  replace q104 := eq_true q104
                  have p105 : 0 ≤ (x3_1 : Int) := of_decide_eq_true (by first | (with_reducible assumption) | assumption)
                  have q105 : x3_1 < (l0.length : Int) := of_decide_eq_true (by first | (with_reducible assumption) | assumption)
                  obtain ⟨ad105, e105, hx105_0⟩ := Kd.at_string HR0.out x3_1 p105 q105
                  obtain rfl : ad104 = ad105 := (by injection e105)
                  replace p105 := eq_true p105
                  replace q105 := eq_true q105
                  go_wp2_with (first | (go_at_call 51; (with_reducible refine (sennitref01_feeds.calls k1 (rdOf ByteArray.empty l0 x3_1) t106 _ A6.out).mono ?_); rintro e w' ⟨rfl, ⟨nd, rfl⟩⟩; have p107 : 0 ≤ (x3_1 : Int) := of_decide_eq_true (by first | (with_reducible assumption) | assumption); have q107 : x3_1 < (l0.length : Int) := of_decide_eq_true (by first | (with_reducible assumption) | assumption); obtain ⟨ad107, e107, hx107_0⟩ := Kd.at_string HR0.out x3_1 p107 q107; obtain rfl : ad104 = ad107 := (by injection e107); replace p107 := eq_true p107; replace q107 := eq_true q107) | (go_at_call 52; (with_reducible refine (sennitref01_Line.calls k1 (rdOf ByteArray.empty l0 x3_1) false _ A8.out).mono ?_); rintro e w' ⟨rfl, ⟨nd, rfl⟩⟩))
                  go_ret
                  exact ⟨by first | rfl | (simp; done) | (simp [*]; done), by repeat (first | exact Drawn0.refl _ | apply Drawn0.step)⟩
            · rw [if_neg c5] at H
              have c5b0 : decide (0 < ((rdOf ByteArray.empty l0 x3_1).size : Int)) = false := decide_eq_false c5
              have c5b1 : decide (0 < (rdOf ByteArray.empty l0 x3_1).size) = false := decide_eq_false (by omega)
              clear c5
              replace H := Option.bind_eq_some_iff.mp H
              obtain ⟨t110, A100, H⟩ := H
              replace H : (if t110 = true then (sennitref01_May.l0 k1 l0 (wrap64 (x3_1 + 1))) else (some false)) = some r := H
              have A10 := Aside0.mk A100
              clear A100
              by_cases c11 : t110 = true
              · subst c11
                have H1 : (sennitref01_May.l0 k1 l0 (wrap64 (x3_1 + 1))) = some r := by rw [if_pos rfl] at H; exact H
                clear H
                have H := H1
                clear H1
                have H' := Aside0.mk H
                clear H
                have p104 : 0 ≤ (x3_1 : Int) := of_decide_eq_true (by first | (with_reducible assumption) | assumption)
                have q104 : x3_1 < (l0.length : Int) := of_decide_eq_true (by first | (with_reducible assumption) | assumption)
                obtain ⟨ad104, e104, hx104_0⟩ := Kd.at_string HR0.out x3_1 p104 q104
                cases e104
                replace p104 := eq_true p104
                replace q104 := eq_true q104
                have p109 : 0 ≤ (x3_1 : Int) := of_decide_eq_true (by first | (with_reducible assumption) | assumption)
                have q109 : x3_1 < (l0.length : Int) := of_decide_eq_true (by first | (with_reducible assumption) | assumption)
                obtain ⟨ad109, e109, hx109_0⟩ := Kd.at_string HR0.out x3_1 p109 q109
                obtain rfl : ad104 = ad109 := (by injection e109)
                replace p109 := eq_true p109
                replace q109 := eq_true q109
                go_wp2_with (first | (go_at_call 52; (with_reducible refine (sennitref01_Line.calls k1 (rdOf ByteArray.empty l0 x3_1) true _ A10.out).mono ?_); rintro e w' ⟨rfl, ⟨nd, rfl⟩⟩))
                go_roundg k1
                case measure => have := HK1.out; omega
                case rel => exact ⟨(wrap64 (x3_1 + 1)), (by first | rfl | (simp; done) | (simp [*]; done)), H', ⟨by have := HK1.out; omega⟩, by repeat (first | exact Drawn0.refl _ | apply Drawn0.step)⟩
              · replace c11 := Bool.eq_false_iff.mpr c11
                subst c11
                have H1 : (some false) = some r := by rw [if_neg (show ¬ (false = true) by decide)] at H; exact H
                clear H
                have H := H1
                clear H1
                obtain rfl := Option.some.inj H
                have p104 : 0 ≤ (x3_1 : Int) := of_decide_eq_true (by first | (with_reducible assumption) | assumption)
                have q104 : x3_1 < (l0.length : Int) := of_decide_eq_true (by first | (with_reducible assumption) | assumption)
                obtain ⟨ad104, e104, hx104_0⟩ := Kd.at_string HR0.out x3_1 p104 q104
                cases e104
                replace p104 := eq_true p104
                replace q104 := eq_true q104
                have p109 : 0 ≤ (x3_1 : Int) := of_decide_eq_true (by first | (with_reducible assumption) | assumption)
                have q109 : x3_1 < (l0.length : Int) := of_decide_eq_true (by first | (with_reducible assumption) | assumption)
                obtain ⟨ad109, e109, hx109_0⟩ := Kd.at_string HR0.out x3_1 p109 q109
                obtain rfl : ad104 = ad109 := (by injection e109)
                replace p109 := eq_true p109
                replace q109 := eq_true q109
                go_wp2_with (first | (go_at_call 52; (with_reducible refine (sennitref01_Line.calls k1 (rdOf ByteArray.empty l0 x3_1) false _ A10.out).mono ?_); rintro e w' ⟨rfl, ⟨nd, rfl⟩⟩))
                go_ret
                exact ⟨by first | rfl | (simp; done) | (simp [*]; done), by repeat (first | exact Drawn0.refl _ | apply Drawn0.step)⟩
          · rw [if_neg c4] at H
            exact absurd H (by simp)
        · rw [if_neg c3] at H
          have c3b0 : (x3_1 == (wrap64 ((l0.length : Int) - 1))) = false := beq_eq_false_iff_ne.mpr c3
          have c3b1 : (x3_1 != (wrap64 ((l0.length : Int) - 1))) = true := bne_iff_ne.mpr c3
          by_cases c12 : 0 ≤ x3_1
          · rw [if_pos c12] at H
            have c12b0 : decide (0 ≤ x3_1) = true := decide_eq_true c12
            clear c12
            replace H := Option.bind_eq_some_iff.mp H
            obtain ⟨t112, A130, H⟩ := H
            replace H : (if t112 = true then (sennitref01_May.l0 k1 l0 (wrap64 (x3_1 + 1))) else (some false)) = some r := H
            have A13 := Aside0.mk A130
            clear A130
            by_cases c14 : t112 = true
            · subst c14
              have H1 : (sennitref01_May.l0 k1 l0 (wrap64 (x3_1 + 1))) = some r := by rw [if_pos rfl] at H; exact H
              clear H
              have H := H1
              clear H1
              have H' := Aside0.mk H
              clear H
              have p111 : 0 ≤ (x3_1 : Int) := of_decide_eq_true (by first | (with_reducible assumption) | assumption)
              have q111 : x3_1 < (l0.length : Int) := of_decide_eq_true (by first | (with_reducible assumption) | assumption)
              obtain ⟨ad111, e111, hx111_0⟩ := Kd.at_string HR0.out x3_1 p111 q111
              cases e111
              replace p111 := eq_true p111
              replace q111 := eq_true q111
              go_wp2_with (first | (go_at_call 52; (with_reducible refine (sennitref01_Line.calls k1 (rdOf ByteArray.empty l0 x3_1) true _ A13.out).mono ?_); rintro e w' ⟨rfl, ⟨nd, rfl⟩⟩))
              go_roundg k1
              case measure => have := HK1.out; omega
              case rel => exact ⟨(wrap64 (x3_1 + 1)), (by first | rfl | (simp; done) | (simp [*]; done)), H', ⟨by have := HK1.out; omega⟩, by repeat (first | exact Drawn0.refl _ | apply Drawn0.step)⟩
            · replace c14 := Bool.eq_false_iff.mpr c14
              subst c14
              have H1 : (some false) = some r := by rw [if_neg (show ¬ (false = true) by decide)] at H; exact H
              clear H
              have H := H1
              clear H1
              obtain rfl := Option.some.inj H
              have p111 : 0 ≤ (x3_1 : Int) := of_decide_eq_true (by first | (with_reducible assumption) | assumption)
              have q111 : x3_1 < (l0.length : Int) := of_decide_eq_true (by first | (with_reducible assumption) | assumption)
              obtain ⟨ad111, e111, hx111_0⟩ := Kd.at_string HR0.out x3_1 p111 q111
              cases e111
              replace p111 := eq_true p111
              replace q111 := eq_true q111
              go_wp2_with (first | (go_at_call 52; (with_reducible refine (sennitref01_Line.calls k1 (rdOf ByteArray.empty l0 x3_1) false _ A13.out).mono ?_); rintro e w' ⟨rfl, ⟨nd, rfl⟩⟩))
              go_ret
              exact ⟨by first | rfl | (simp; done) | (simp [*]; done), by repeat (first | exact Drawn0.refl _ | apply Drawn0.step)⟩
          · rw [if_neg c12] at H
            exact absurd H (by simp)
      · rw [if_neg c2] at H
        have c2b0 : decide (x3_1 < (l0.length : Int)) = false := decide_eq_false c2
        clear c2
        obtain rfl := Option.some.inj H
        go_wp2
        go_ret
        exact ⟨by first | rfl | (simp; done) | (simp [*]; done), by repeat (first | exact Drawn0.refl _ | apply Drawn0.step)⟩

end Go.Proofs.YthcnfflhejogfaaDoor.X
-- part XRn2
namespace Go.Proofs.YthcnfflhejogfaaDoor.X
open Go.RowKit Go.Proofs.YthcnfflhejogfaaDoorW.PrintWords Go.Proofs.YthcnfflhejogfaaDoorW.PrintLast Go.Proofs.YthcnfflhejogfaaDoorW.PrintMore
attribute [local go_sem] max2_int min2_int max_two min_two max_three min_three max_four min_four   -- for this text's walks alone
set_option linter.unusedVariables false
set_option linter.unusedSimpArgs false
def sennitref21_may.l0 : Nat → Int → Bool → Bool → Int → ByteArray → ByteArray → Option (Bool)
  | 0, _, _, _, _, _, _ => none
  | k + 1, x1, x5, x6, x7, x114000, x114001 => if x7 < (x114000.size : Int) then (if 0 ≤ x7 then (if x5 = true then (if x6 = true then (if (bt x114000 x7) = 32 then (sennitref21_may.l0 k x1 true true (wrap64 (x7 + 1)) x114000 x114001) else (if (bt x114000 x7) = 43 then (sennitref21_may.l0 k x1 true true (wrap64 (x7 + 1)) x114000 x114001) else (if (bt x114000 x7) = 45 then (sennitref21_may.l0 k x1 true true (wrap64 (x7 + 1)) x114000 x114001) else (some false)))) else (if (bt x114000 x7) = 32 then (sennitref21_may.l0 k x1 true ((bt x114000 x7) == 45) (wrap64 (x7 + 1)) x114000 x114001) else (if (bt x114000 x7) = 43 then (sennitref21_may.l0 k x1 true ((bt x114000 x7) == 45) (wrap64 (x7 + 1)) x114000 x114001) else (if (bt x114000 x7) = 45 then (sennitref21_may.l0 k x1 true ((bt x114000 x7) == 45) (wrap64 (x7 + 1)) x114000 x114001) else (some false))))) else (if x6 = true then (if (bt x114000 x7) = 32 then (sennitref21_may.l0 k x1 ((bt x114000 x7) == 43) true (wrap64 (x7 + 1)) x114000 x114001) else (if (bt x114000 x7) = 43 then (sennitref21_may.l0 k x1 ((bt x114000 x7) == 43) true (wrap64 (x7 + 1)) x114000 x114001) else (if (bt x114000 x7) = 45 then (sennitref21_may.l0 k x1 ((bt x114000 x7) == 43) true (wrap64 (x7 + 1)) x114000 x114001) else (some false)))) else (if (bt x114000 x7) = 32 then (sennitref21_may.l0 k x1 ((bt x114000 x7) == 43) ((bt x114000 x7) == 45) (wrap64 (x7 + 1)) x114000 x114001) else (if (bt x114000 x7) = 43 then (sennitref21_may.l0 k x1 ((bt x114000 x7) == 43) ((bt x114000 x7) == 45) (wrap64 (x7 + 1)) x114000 x114001) else (if (bt x114000 x7) = 45 then (sennitref21_may.l0 k x1 ((bt x114000 x7) == 43) ((bt x114000 x7) == 45) (wrap64 (x7 + 1)) x114000 x114001) else (some false)))))) else (none)) else (if (x114000.size : Int) = x1 then (if x5 = true then (if x6 = true then (some false) else ((sennitref01_May.f k (([x114001] : List ByteArray))).bind fun t117 => (some t117))) else ((sennitref01_May.f k (([x114001] : List ByteArray))).bind fun t121 => (some t121))) else (some false))
def sennitref21_may.f (k : Nat) (a0_0 : ByteArray) (a0_1 : ByteArray) (a1 : Int) : Option (Bool) := sennitref21_may.l0 k a1 false false 0 a0_0 a0_1
set_option maxHeartbeats 8000000 in
set_option maxRecDepth 100000 in
theorem sennitref21_may.calls (k : Nat) (a0_0 : ByteArray) (a0_1 : ByteArray) (a1 : Int) (r : Bool) (w : World) (h : sennitref21_may.f k a0_0 a0_1 a1 = some r) :
    Calls Tryd.prog 57 #[.agg #[.string a0_0, .string a0_1], .int .i64 a1] w fun e w' => e = .returned (.bool r) ∧ Below w.heap.size w w' := by
  have hu57 := Tryd.underlying57
  have HB := Aside0.mk (Below.refl w.heap.size w)
  have H : (sennitref21_may.l0 k a1 false false 0 a0_0 a0_1) = some r := h
  clear h
  have H' := Aside0.mk H
  clear H
  go_enter Tryd.func57, Tryd.ntmps57
  go_wp2_with (first | ((with_reducible refine gate_dst (N := 2) rfl ?_); (try (refine gate_guard (by rfl) ?_; dsimp only)); refine box_event ?hg (N := 2) ?hd (cs := #[.string a0_0, .string a0_1]) (t := 57) ?hr ?_; (case hd => rfl); (case hg => rfl); (case hr => first | (go_simp; done) | (go_simp; rfl)); intro gb113 hg w3 hbox hb; have n0_ := Aside0.mk (below_step (by repeat (first | (with_reducible first | exact HB.out | apply below_alloc | apply pw_below_drewN | apply below_drew1) | exact HB.out)) hb); have n1_ := Aside0.mk (hbox); have n2_ := Aside0.mk ((by rw [hg]; exact (below_size (by repeat (first | (with_reducible first | exact HB.out | apply below_alloc | apply pw_below_drewN | apply below_drew1) | exact HB.out))) : w.heap.size ≤ gb113)); have n3_ := Aside0.mk ((by rw [hg]; exact (below_size (by repeat (first | (with_reducible first | exact HB.out | apply below_alloc | apply pw_below_drewN | apply below_drew1) | exact HB.out))) : w.heap.size ≤ gb113)); clear HB; have HB := n0_; have BK113 := n1_; have GW113 := n2_; have GE113 := n3_; clear n0_ n1_ n2_ n3_; clear hb hbox hg))
  go_loopg [5, 6, 7] k (fun kq v5 v6 v7 w' => ∃ (x5_1 : Bool) (x6_1 : Bool) (x7_1 : Int), v5 = .bool x5_1 ∧ v6 = .bool x6_1 ∧ v7 = .int .i64 x7_1 ∧ Aside0 (sennitref21_may.l0 kq a1 x5_1 x6_1 x7_1 a0_0 a0_1 = some r) ∧ Aside0 (kq ≤ k) ∧ Aside0 (w'.heap[gb113]? = some (.cells #[.string a0_0, .string a0_1] 57 (0, 0))) ∧ Aside0 (Below w.heap.size w w'))
  case atStart => exact ⟨(false), (false), (0), (by first | rfl | (simp; done) | (simp [*]; done)), (by first | rfl | (simp; done) | (simp [*]; done)), (by first | rfl | (simp; done) | (simp [*]; done)), H', ⟨Nat.le_refl _⟩, ⟨by (with_reducible repeat (first | refine blk_drewN ?_ _ | refine blk_drew ?_ | refine blk_alloc ?_ _)); exact BK113.out⟩, ⟨by repeat (first | (with_reducible first | exact HB.out | apply below_alloc | apply pw_below_drewN | apply below_drew1 | refine below_set ?_ GE113.out) | exact HB.out)⟩⟩
  case round =>
    clear H'
    try clear p2
    obtain ⟨x5_1, x6_1, x7_1, rfl, rfl, rfl, HA, HK1, BK113, HB⟩ := hrel
    cases gk with
    | zero => exact absurd HA.out (by simp [sennitref21_may.l0])
    | succ k1 =>
      have H := HA.out
      clear HA
      simp only [sennitref21_may.l0] at H
      by_cases c4 : x7_1 < (a0_0.size : Int)
      · rw [if_pos c4] at H
        have c4b0 : decide (x7_1 < (a0_0.size : Int)) = true := decide_eq_true c4
        clear c4
        by_cases c5 : 0 ≤ x7_1
        · rw [if_pos c5] at H
          have c5b0 : decide (0 ≤ x7_1) = true := decide_eq_true c5
          clear c5
          by_cases c7 : x5_1 = true
          · subst c7
            have H1 : (if x6_1 = true then (if (bt a0_0 x7_1) = 32 then (sennitref21_may.l0 k1 a1 true true (wrap64 (x7_1 + 1)) a0_0 a0_1) else (if (bt a0_0 x7_1) = 43 then (sennitref21_may.l0 k1 a1 true true (wrap64 (x7_1 + 1)) a0_0 a0_1) else (if (bt a0_0 x7_1) = 45 then (sennitref21_may.l0 k1 a1 true true (wrap64 (x7_1 + 1)) a0_0 a0_1) else (some false)))) else (if (bt a0_0 x7_1) = 32 then (sennitref21_may.l0 k1 a1 true ((bt a0_0 x7_1) == 45) (wrap64 (x7_1 + 1)) a0_0 a0_1) else (if (bt a0_0 x7_1) = 43 then (sennitref21_may.l0 k1 a1 true ((bt a0_0 x7_1) == 45) (wrap64 (x7_1 + 1)) a0_0 a0_1) else (if (bt a0_0 x7_1) = 45 then (sennitref21_may.l0 k1 a1 true ((bt a0_0 x7_1) == 45) (wrap64 (x7_1 + 1)) a0_0 a0_1) else (some false))))) = some r := by rw [if_pos rfl] at H; exact H
            clear H
            have H := H1
            clear H1
            by_cases c8 : x6_1 = true
            · subst c8
              have H1 : (if (bt a0_0 x7_1) = 32 then (sennitref21_may.l0 k1 a1 true true (wrap64 (x7_1 + 1)) a0_0 a0_1) else (if (bt a0_0 x7_1) = 43 then (sennitref21_may.l0 k1 a1 true true (wrap64 (x7_1 + 1)) a0_0 a0_1) else (if (bt a0_0 x7_1) = 45 then (sennitref21_may.l0 k1 a1 true true (wrap64 (x7_1 + 1)) a0_0 a0_1) else (some false)))) = some r := by rw [if_pos rfl] at H; exact H
              clear H
              have H := H1
              clear H1
              by_cases c9 : (bt a0_0 x7_1) = 32
              · rw [if_pos c9] at H
                have c9b0 : ((bt a0_0 x7_1) == 32) = true := beq_iff_eq.mpr c9
                have c9b1 : ((bt a0_0 x7_1) != 32) = false := bne_eq_false_iff_eq.mpr c9
                clear c9
                have H' := Aside0.mk H
                clear H
                have hcz10_0 : wr.cell? ⟨gb113, 0, none⟩ = some (.string a0_0) := (blk_cell BK113.out 0).trans rfl
                have hcz10_1 : wr.cell? ⟨gb113, 1, none⟩ = some (.string a0_1) := (blk_cell BK113.out 1).trans rfl
                have hfz10_0 := blk_frozen BK113.out 0
                have hfz10_1 := blk_frozen BK113.out 1
                have p6 : 0 ≤ (x7_1 : Int) := of_decide_eq_true (by first | (with_reducible assumption) | assumption)
                have q6 : x7_1 < (a0_0.size : Int) := of_decide_eq_true (by first | (with_reducible assumption) | assumption)
                have hx6 := bt_at a0_0 x7_1
                replace p6 := eq_true p6
                replace q6 := eq_true q6
                go_wp2
                go_roundg k1
                case measure => have := HK1.out; omega
                case rel => exact ⟨(true), (true), (wrap64 (x7_1 + 1)), (by first | rfl | (simp; done) | (simp [*]; done)), (by first | rfl | (simp; done) | (simp [*]; done)), (by first | rfl | (simp; done) | (simp [*]; done)), H', ⟨by have := HK1.out; omega⟩, ⟨by (with_reducible repeat (first | refine blk_drewN ?_ _ | refine blk_drew ?_ | refine blk_alloc ?_ _)); exact BK113.out⟩, ⟨by repeat (first | (with_reducible first | exact HB.out | apply below_alloc | apply pw_below_drewN | apply below_drew1 | refine below_set ?_ GE113.out) | exact HB.out)⟩⟩
              · rw [if_neg c9] at H
                have c9b0 : ((bt a0_0 x7_1) == 32) = false := beq_eq_false_iff_ne.mpr c9
                have c9b1 : ((bt a0_0 x7_1) != 32) = true := bne_iff_ne.mpr c9
                by_cases c11 : (bt a0_0 x7_1) = 43
                · rw [if_pos c11] at H
                  have c11b0 : ((bt a0_0 x7_1) == 43) = true := beq_iff_eq.mpr c11
                  have c11b1 : ((bt a0_0 x7_1) != 43) = false := bne_eq_false_iff_eq.mpr c11
                  clear c11
                  have H' := Aside0.mk H
                  clear H
                  have hcz12_0 : wr.cell? ⟨gb113, 0, none⟩ = some (.string a0_0) := (blk_cell BK113.out 0).trans rfl
                  have hcz12_1 : wr.cell? ⟨gb113, 1, none⟩ = some (.string a0_1) := (blk_cell BK113.out 1).trans rfl
                  have hfz12_0 := blk_frozen BK113.out 0
                  have hfz12_1 := blk_frozen BK113.out 1
                  have p6 : 0 ≤ (x7_1 : Int) := of_decide_eq_true (by first | (with_reducible assumption) | assumption)
                  have q6 : x7_1 < (a0_0.size : Int) := of_decide_eq_true (by first | (with_reducible assumption) | assumption)
                  have hx6 := bt_at a0_0 x7_1
                  replace p6 := eq_true p6
                  replace q6 := eq_true q6
                  go_wp2
                  go_roundg k1
                  case measure => have := HK1.out; omega
                  case rel => exact ⟨(true), (true), (wrap64 (x7_1 + 1)), (by first | rfl | (simp; done) | (simp [*]; done)), (by first | rfl | (simp; done) | (simp [*]; done)), (by first | rfl | (simp; done) | (simp [*]; done)), H', ⟨by have := HK1.out; omega⟩, ⟨by (with_reducible repeat (first | refine blk_drewN ?_ _ | refine blk_drew ?_ | refine blk_alloc ?_ _)); exact BK113.out⟩, ⟨by repeat (first | (with_reducible first | exact HB.out | apply below_alloc | apply pw_below_drewN | apply below_drew1 | refine below_set ?_ GE113.out) | exact HB.out)⟩⟩
                · rw [if_neg c11] at H
                  have c11b0 : ((bt a0_0 x7_1) == 43) = false := beq_eq_false_iff_ne.mpr c11
                  have c11b1 : ((bt a0_0 x7_1) != 43) = true := bne_iff_ne.mpr c11
                  by_cases c13 : (bt a0_0 x7_1) = 45
                  · rw [if_pos c13] at H
                    have c13b0 : ((bt a0_0 x7_1) == 45) = true := beq_iff_eq.mpr c13
                    have c13b1 : ((bt a0_0 x7_1) != 45) = false := bne_eq_false_iff_eq.mpr c13
                    clear c13
                    have H' := Aside0.mk H
                    clear H
                    have hcz14_0 : wr.cell? ⟨gb113, 0, none⟩ = some (.string a0_0) := (blk_cell BK113.out 0).trans rfl
                    have hcz14_1 : wr.cell? ⟨gb113, 1, none⟩ = some (.string a0_1) := (blk_cell BK113.out 1).trans rfl
                    have hfz14_0 := blk_frozen BK113.out 0
                    have hfz14_1 := blk_frozen BK113.out 1
                    have p6 : 0 ≤ (x7_1 : Int) := of_decide_eq_true (by first | (with_reducible assumption) | assumption)
                    have q6 : x7_1 < (a0_0.size : Int) := of_decide_eq_true (by first | (with_reducible assumption) | assumption)
                    have hx6 := bt_at a0_0 x7_1
                    replace p6 := eq_true p6
                    replace q6 := eq_true q6
                    go_wp2
                    go_roundg k1
                    case measure => have := HK1.out; omega
                    case rel => exact ⟨(true), (true), (wrap64 (x7_1 + 1)), (by first | rfl | (simp; done) | (simp [*]; done)), (by first | rfl | (simp; done) | (simp [*]; done)), (by first | rfl | (simp; done) | (simp [*]; done)), H', ⟨by have := HK1.out; omega⟩, ⟨by (with_reducible repeat (first | refine blk_drewN ?_ _ | refine blk_drew ?_ | refine blk_alloc ?_ _)); exact BK113.out⟩, ⟨by repeat (first | (with_reducible first | exact HB.out | apply below_alloc | apply pw_below_drewN | apply below_drew1 | refine below_set ?_ GE113.out) | exact HB.out)⟩⟩
                  · rw [if_neg c13] at H
                    have c13b0 : ((bt a0_0 x7_1) == 45) = false := beq_eq_false_iff_ne.mpr c13
                    have c13b1 : ((bt a0_0 x7_1) != 45) = true := bne_iff_ne.mpr c13
                    obtain rfl := Option.some.inj H
                    have hcz15_0 : wr.cell? ⟨gb113, 0, none⟩ = some (.string a0_0) := (blk_cell BK113.out 0).trans rfl
                    have hcz15_1 : wr.cell? ⟨gb113, 1, none⟩ = some (.string a0_1) := (blk_cell BK113.out 1).trans rfl
                    have hfz15_0 := blk_frozen BK113.out 0
                    have hfz15_1 := blk_frozen BK113.out 1
                    have p6 : 0 ≤ (x7_1 : Int) := of_decide_eq_true (by first | (with_reducible assumption) | assumption)
                    have q6 : x7_1 < (a0_0.size : Int) := of_decide_eq_true (by first | (with_reducible assumption) | assumption)
                    have hx6 := bt_at a0_0 x7_1
                    replace p6 := eq_true p6
                    replace q6 := eq_true q6
                    go_wp2
                    go_ret
                    exact ⟨by first | rfl | (simp [errW_none, errW_some] <;> rfl) | (simp [*, errW_none, errW_some] <;> rfl), by repeat (first | (with_reducible first | exact HB.out | apply below_alloc | apply pw_below_drewN | apply below_drew1 | refine below_set ?_ GE113.out) | exact HB.out)⟩
            · replace c8 := Bool.eq_false_iff.mpr c8
              subst c8
              have H1 : (if (bt a0_0 x7_1) = 32 then (sennitref21_may.l0 k1 a1 true ((bt a0_0 x7_1) == 45) (wrap64 (x7_1 + 1)) a0_0 a0_1) else (if (bt a0_0 x7_1) = 43 then (sennitref21_may.l0 k1 a1 true ((bt a0_0 x7_1) == 45) (wrap64 (x7_1 + 1)) a0_0 a0_1) else (if (bt a0_0 x7_1) = 45 then (sennitref21_may.l0 k1 a1 true ((bt a0_0 x7_1) == 45) (wrap64 (x7_1 + 1)) a0_0 a0_1) else (some false)))) = some r := by rw [if_neg (show ¬ (false = true) by decide)] at H; exact H
              clear H
              have H := H1
              clear H1
              by_cases c16 : (bt a0_0 x7_1) = 32
              · rw [if_pos c16] at H
                have c16b0 : ((bt a0_0 x7_1) == 32) = true := beq_iff_eq.mpr c16
                have c16b1 : ((bt a0_0 x7_1) != 32) = false := bne_eq_false_iff_eq.mpr c16
                clear c16
                have H' := Aside0.mk H
                clear H
                have hcz17_0 : wr.cell? ⟨gb113, 0, none⟩ = some (.string a0_0) := (blk_cell BK113.out 0).trans rfl
                have hcz17_1 : wr.cell? ⟨gb113, 1, none⟩ = some (.string a0_1) := (blk_cell BK113.out 1).trans rfl
                have hfz17_0 := blk_frozen BK113.out 0
                have hfz17_1 := blk_frozen BK113.out 1
                have p6 : 0 ≤ (x7_1 : Int) := of_decide_eq_true (by first | (with_reducible assumption) | assumption)
                have q6 : x7_1 < (a0_0.size : Int) := of_decide_eq_true (by first | (with_reducible assumption) | assumption)
                have hx6 := bt_at a0_0 x7_1
                replace p6 := eq_true p6
                replace q6 := eq_true q6
                go_wp2
                go_roundg k1
                case measure => have := HK1.out; omega
                case rel => exact ⟨(true), (((bt a0_0 x7_1) == 45)), (wrap64 (x7_1 + 1)), (by first | rfl | (simp; done) | (simp [*]; done)), (by first | rfl | (simp; done) | (simp [*]; done)), (by first | rfl | (simp; done) | (simp [*]; done)), H', ⟨by have := HK1.out; omega⟩, ⟨by (with_reducible repeat (first | refine blk_drewN ?_ _ | refine blk_drew ?_ | refine blk_alloc ?_ _)); exact BK113.out⟩, ⟨by repeat (first | (with_reducible first | exact HB.out | apply below_alloc | apply pw_below_drewN | apply below_drew1 | refine below_set ?_ GE113.out) | exact HB.out)⟩⟩
              · rw [if_neg c16] at H
                have c16b0 : ((bt a0_0 x7_1) == 32) = false := beq_eq_false_iff_ne.mpr c16
                have c16b1 : ((bt a0_0 x7_1) != 32) = true := bne_iff_ne.mpr c16
                by_cases c18 : (bt a0_0 x7_1) = 43
                · rw [if_pos c18] at H
                  have c18b0 : ((bt a0_0 x7_1) == 43) = true := beq_iff_eq.mpr c18
                  have c18b1 : ((bt a0_0 x7_1) != 43) = false := bne_eq_false_iff_eq.mpr c18
                  clear c18
                  have H' := Aside0.mk H
                  clear H
                  have hcz19_0 : wr.cell? ⟨gb113, 0, none⟩ = some (.string a0_0) := (blk_cell BK113.out 0).trans rfl
                  have hcz19_1 : wr.cell? ⟨gb113, 1, none⟩ = some (.string a0_1) := (blk_cell BK113.out 1).trans rfl
                  have hfz19_0 := blk_frozen BK113.out 0
                  have hfz19_1 := blk_frozen BK113.out 1
                  have p6 : 0 ≤ (x7_1 : Int) := of_decide_eq_true (by first | (with_reducible assumption) | assumption)
                  have q6 : x7_1 < (a0_0.size : Int) := of_decide_eq_true (by first | (with_reducible assumption) | assumption)
                  have hx6 := bt_at a0_0 x7_1
                  replace p6 := eq_true p6
                  replace q6 := eq_true q6
                  go_wp2
                  go_roundg k1
                  case measure => have := HK1.out; omega
                  case rel => exact ⟨(true), (((bt a0_0 x7_1) == 45)), (wrap64 (x7_1 + 1)), (by first | rfl | (simp; done) | (simp [*]; done)), (by first | rfl | (simp; done) | (simp [*]; done)), (by first | rfl | (simp; done) | (simp [*]; done)), H', ⟨by have := HK1.out; omega⟩, ⟨by (with_reducible repeat (first | refine blk_drewN ?_ _ | refine blk_drew ?_ | refine blk_alloc ?_ _)); exact BK113.out⟩, ⟨by repeat (first | (with_reducible first | exact HB.out | apply below_alloc | apply pw_below_drewN | apply below_drew1 | refine below_set ?_ GE113.out) | exact HB.out)⟩⟩
                · rw [if_neg c18] at H
                  have c18b0 : ((bt a0_0 x7_1) == 43) = false := beq_eq_false_iff_ne.mpr c18
                  have c18b1 : ((bt a0_0 x7_1) != 43) = true := bne_iff_ne.mpr c18
                  by_cases c20 : (bt a0_0 x7_1) = 45
                  · rw [if_pos c20] at H
                    have c20b0 : ((bt a0_0 x7_1) == 45) = true := beq_iff_eq.mpr c20
                    have c20b1 : ((bt a0_0 x7_1) != 45) = false := bne_eq_false_iff_eq.mpr c20
                    clear c20
                    have H' := Aside0.mk H
                    clear H
                    have hcz21_0 : wr.cell? ⟨gb113, 0, none⟩ = some (.string a0_0) := (blk_cell BK113.out 0).trans rfl
                    have hcz21_1 : wr.cell? ⟨gb113, 1, none⟩ = some (.string a0_1) := (blk_cell BK113.out 1).trans rfl
                    have hfz21_0 := blk_frozen BK113.out 0
                    have hfz21_1 := blk_frozen BK113.out 1
                    have p6 : 0 ≤ (x7_1 : Int) := of_decide_eq_true (by first | (with_reducible assumption) | assumption)
                    have q6 : x7_1 < (a0_0.size : Int) := of_decide_eq_true (by first | (with_reducible assumption) | assumption)
                    have hx6 := bt_at a0_0 x7_1
                    replace p6 := eq_true p6
                    replace q6 := eq_true q6
                    go_wp2
                    go_roundg k1
                    case measure => have := HK1.out; omega
                    case rel => exact ⟨(true), (((bt a0_0 x7_1) == 45)), (wrap64 (x7_1 + 1)), (by first | rfl | (simp; done) | (simp [*]; done)), (by first | rfl | (simp; done) | (simp [*]; done)), (by first | rfl | (simp; done) | (simp [*]; done)), H', ⟨by have := HK1.out; omega⟩, ⟨by (with_reducible repeat (first | refine blk_drewN ?_ _ | refine blk_drew ?_ | refine blk_alloc ?_ _)); exact BK113.out⟩, ⟨by repeat (first | (with_reducible first | exact HB.out | apply below_alloc | apply pw_below_drewN | apply below_drew1 | refine below_set ?_ GE113.out) | exact HB.out)⟩⟩
                  · rw [if_neg c20] at H
                    have c20b0 : ((bt a0_0 x7_1) == 45) = false := beq_eq_false_iff_ne.mpr c20
                    have c20b1 : ((bt a0_0 x7_1) != 45) = true := bne_iff_ne.mpr c20
                    obtain rfl := Option.some.inj H
                    have hcz22_0 : wr.cell? ⟨gb113, 0, none⟩ = some (.string a0_0) := (blk_cell BK113.out 0).trans rfl
                    have hcz22_1 : wr.cell? ⟨gb113, 1, none⟩ = some (.string a0_1) := (blk_cell BK113.out 1).trans rfl
                    have hfz22_0 := blk_frozen BK113.out 0
                    have hfz22_1 := blk_frozen BK113.out 1
                    have p6 : 0 ≤ (x7_1 : Int) := of_decide_eq_true (by first | (with_reducible assumption) | assumption)
                    have q6 : x7_1 < (a0_0.size : Int) := of_decide_eq_true (by first | (with_reducible assumption) | assumption)
                    have hx6 := bt_at a0_0 x7_1
                    replace p6 := eq_true p6
                    replace q6 := eq_true q6
                    go_wp2
                    go_ret
                    exact ⟨by first | rfl | (simp [errW_none, errW_some] <;> rfl) | (simp [*, errW_none, errW_some] <;> rfl), by repeat (first | (with_reducible first | exact HB.out | apply below_alloc | apply pw_below_drewN | apply below_drew1 | refine below_set ?_ GE113.out) | exact HB.out)⟩
          · replace c7 := Bool.eq_false_iff.mpr c7
            subst c7
            have H1 : (if x6_1 = true then (if (bt a0_0 x7_1) = 32 then (sennitref21_may.l0 k1 a1 ((bt a0_0 x7_1) == 43) true (wrap64 (x7_1 + 1)) a0_0 a0_1) else (if (bt a0_0 x7_1) = 43 then (sennitref21_may.l0 k1 a1 ((bt a0_0 x7_1) == 43) true (wrap64 (x7_1 + 1)) a0_0 a0_1) else (if (bt a0_0 x7_1) = 45 then (sennitref21_may.l0 k1 a1 ((bt a0_0 x7_1) == 43) true (wrap64 (x7_1 + 1)) a0_0 a0_1) else (some false)))) else (if (bt a0_0 x7_1) = 32 then (sennitref21_may.l0 k1 a1 ((bt a0_0 x7_1) == 43) ((bt a0_0 x7_1) == 45) (wrap64 (x7_1 + 1)) a0_0 a0_1) else (if (bt a0_0 x7_1) = 43 then (sennitref21_may.l0 k1 a1 ((bt a0_0 x7_1) == 43) ((bt a0_0 x7_1) == 45) (wrap64 (x7_1 + 1)) a0_0 a0_1) else (if (bt a0_0 x7_1) = 45 then (sennitref21_may.l0 k1 a1 ((bt a0_0 x7_1) == 43) ((bt a0_0 x7_1) == 45) (wrap64 (x7_1 + 1)) a0_0 a0_1) else (some false))))) = some r := by rw [if_neg (show ¬ (false = true) by decide)] at H; exact H
            clear H
            have H := H1
            clear H1
            by_cases c23 : x6_1 = true
            · subst c23
              have H1 : (if (bt a0_0 x7_1) = 32 then (sennitref21_may.l0 k1 a1 ((bt a0_0 x7_1) == 43) true (wrap64 (x7_1 + 1)) a0_0 a0_1) else (if (bt a0_0 x7_1) = 43 then (sennitref21_may.l0 k1 a1 ((bt a0_0 x7_1) == 43) true (wrap64 (x7_1 + 1)) a0_0 a0_1) else (if (bt a0_0 x7_1) = 45 then (sennitref21_may.l0 k1 a1 ((bt a0_0 x7_1) == 43) true (wrap64 (x7_1 + 1)) a0_0 a0_1) else (some false)))) = some r := by rw [if_pos rfl] at H; exact H
              clear H
              have H := H1
              clear H1
              by_cases c24 : (bt a0_0 x7_1) = 32
              · rw [if_pos c24] at H
                have c24b0 : ((bt a0_0 x7_1) == 32) = true := beq_iff_eq.mpr c24
                have c24b1 : ((bt a0_0 x7_1) != 32) = false := bne_eq_false_iff_eq.mpr c24
                clear c24
                have H' := Aside0.mk H
                clear H
                have hcz25_0 : wr.cell? ⟨gb113, 0, none⟩ = some (.string a0_0) := (blk_cell BK113.out 0).trans rfl
                have hcz25_1 : wr.cell? ⟨gb113, 1, none⟩ = some (.string a0_1) := (blk_cell BK113.out 1).trans rfl
                have hfz25_0 := blk_frozen BK113.out 0
                have hfz25_1 := blk_frozen BK113.out 1
                have p6 : 0 ≤ (x7_1 : Int) := of_decide_eq_true (by first | (with_reducible assumption) | assumption)
                have q6 : x7_1 < (a0_0.size : Int) := of_decide_eq_true (by first | (with_reducible assumption) | assumption)
                have hx6 := bt_at a0_0 x7_1
                replace p6 := eq_true p6
                replace q6 := eq_true q6
                go_wp2
                go_roundg k1
                case measure => have := HK1.out; omega
                case rel => exact ⟨(((bt a0_0 x7_1) == 43)), (true), (wrap64 (x7_1 + 1)), (by first | rfl | (simp; done) | (simp [*]; done)), (by first | rfl | (simp; done) | (simp [*]; done)), (by first | rfl | (simp; done) | (simp [*]; done)), H', ⟨by have := HK1.out; omega⟩, ⟨by (with_reducible repeat (first | refine blk_drewN ?_ _ | refine blk_drew ?_ | refine blk_alloc ?_ _)); exact BK113.out⟩, ⟨by repeat (first | (with_reducible first | exact HB.out | apply below_alloc | apply pw_below_drewN | apply below_drew1 | refine below_set ?_ GE113.out) | exact HB.out)⟩⟩
              · rw [if_neg c24] at H
                have c24b0 : ((bt a0_0 x7_1) == 32) = false := beq_eq_false_iff_ne.mpr c24
                have c24b1 : ((bt a0_0 x7_1) != 32) = true := bne_iff_ne.mpr c24
                by_cases c26 : (bt a0_0 x7_1) = 43
                · rw [if_pos c26] at H
                  have c26b0 : ((bt a0_0 x7_1) == 43) = true := beq_iff_eq.mpr c26
                  have c26b1 : ((bt a0_0 x7_1) != 43) = false := bne_eq_false_iff_eq.mpr c26
                  clear c26
                  have H' := Aside0.mk H
                  clear H
                  have hcz27_0 : wr.cell? ⟨gb113, 0, none⟩ = some (.string a0_0) := (blk_cell BK113.out 0).trans rfl
                  have hcz27_1 : wr.cell? ⟨gb113, 1, none⟩ = some (.string a0_1) := (blk_cell BK113.out 1).trans rfl
                  have hfz27_0 := blk_frozen BK113.out 0
                  have hfz27_1 := blk_frozen BK113.out 1
                  have p6 : 0 ≤ (x7_1 : Int) := of_decide_eq_true (by first | (with_reducible assumption) | assumption)
                  have q6 : x7_1 < (a0_0.size : Int) := of_decide_eq_true (by first | (with_reducible assumption) | assumption)
                  have hx6 := bt_at a0_0 x7_1
                  replace p6 := eq_true p6
                  replace q6 := eq_true q6
                  go_wp2
                  go_roundg k1
                  case measure => have := HK1.out; omega
                  case rel => exact ⟨(((bt a0_0 x7_1) == 43)), (true), (wrap64 (x7_1 + 1)), (by first | rfl | (simp; done) | (simp [*]; done)), (by first | rfl | (simp; done) | (simp [*]; done)), (by first | rfl | (simp; done) | (simp [*]; done)), H', ⟨by have := HK1.out; omega⟩, ⟨by (with_reducible repeat (first | refine blk_drewN ?_ _ | refine blk_drew ?_ | refine blk_alloc ?_ _)); exact BK113.out⟩, ⟨by repeat (first | (with_reducible first | exact HB.out | apply below_alloc | apply pw_below_drewN | apply below_drew1 | refine below_set ?_ GE113.out) | exact HB.out)⟩⟩
                · rw [if_neg c26] at H
                  have c26b0 : ((bt a0_0 x7_1) == 43) = false := beq_eq_false_iff_ne.mpr c26
                  have c26b1 : ((bt a0_0 x7_1) != 43) = true := bne_iff_ne.mpr c26
                  by_cases c28 : (bt a0_0 x7_1) = 45
                  · rw [if_pos c28] at H
                    have c28b0 : ((bt a0_0 x7_1) == 45) = true := beq_iff_eq.mpr c28
                    have c28b1 : ((bt a0_0 x7_1) != 45) = false := bne_eq_false_iff_eq.mpr c28
                    clear c28
                    have H' := Aside0.mk H
                    clear H
                    have hcz29_0 : wr.cell? ⟨gb113, 0, none⟩ = some (.string a0_0) := (blk_cell BK113.out 0).trans rfl
                    have hcz29_1 : wr.cell? ⟨gb113, 1, none⟩ = some (.string a0_1) := (blk_cell BK113.out 1).trans rfl
                    have hfz29_0 := blk_frozen BK113.out 0
                    have hfz29_1 := blk_frozen BK113.out 1
                    have p6 : 0 ≤ (x7_1 : Int) := of_decide_eq_true (by first | (with_reducible assumption) | assumption)
                    have q6 : x7_1 < (a0_0.size : Int) := of_decide_eq_true (by first | (with_reducible assumption) | assumption)
                    have hx6 := bt_at a0_0 x7_1
                    replace p6 := eq_true p6
                    replace q6 := eq_true q6
                    go_wp2
                    go_roundg k1
                    case measure => have := HK1.out; omega
                    case rel => exact ⟨(((bt a0_0 x7_1) == 43)), (true), (wrap64 (x7_1 + 1)), (by first | rfl | (simp; done) | (simp [*]; done)), (by first | rfl | (simp; done) | (simp [*]; done)), (by first | rfl | (simp; done) | (simp [*]; done)), H', ⟨by have := HK1.out; omega⟩, ⟨by (with_reducible repeat (first | refine blk_drewN ?_ _ | refine blk_drew ?_ | refine blk_alloc ?_ _)); exact BK113.out⟩, ⟨by repeat (first | (with_reducible first | exact HB.out | apply below_alloc | apply pw_below_drewN | apply below_drew1 | refine below_set ?_ GE113.out) | exact HB.out)⟩⟩
                  · rw [if_neg c28] at H
                    have c28b0 : ((bt a0_0 x7_1) == 45) = false := beq_eq_false_iff_ne.mpr c28
                    have c28b1 : ((bt a0_0 x7_1) != 45) = true := bne_iff_ne.mpr c28
                    obtain rfl := Option.some.inj H
                    have hcz30_0 : wr.cell? ⟨gb113, 0, none⟩ = some (.string a0_0) := (blk_cell BK113.out 0).trans rfl
                    have hcz30_1 : wr.cell? ⟨gb113, 1, none⟩ = some (.string a0_1) := (blk_cell BK113.out 1).trans rfl
                    have hfz30_0 := blk_frozen BK113.out 0
                    have hfz30_1 := blk_frozen BK113.out 1
                    have p6 : 0 ≤ (x7_1 : Int) := of_decide_eq_true (by first | (with_reducible assumption) | assumption)
                    have q6 : x7_1 < (a0_0.size : Int) := of_decide_eq_true (by first | (with_reducible assumption) | assumption)
                    have hx6 := bt_at a0_0 x7_1
                    replace p6 := eq_true p6
                    replace q6 := eq_true q6
                    go_wp2
                    go_ret
                    exact ⟨by first | rfl | (simp [errW_none, errW_some] <;> rfl) | (simp [*, errW_none, errW_some] <;> rfl), by repeat (first | (with_reducible first | exact HB.out | apply below_alloc | apply pw_below_drewN | apply below_drew1 | refine below_set ?_ GE113.out) | exact HB.out)⟩
            · replace c23 := Bool.eq_false_iff.mpr c23
              subst c23
              have H1 : (if (bt a0_0 x7_1) = 32 then (sennitref21_may.l0 k1 a1 ((bt a0_0 x7_1) == 43) ((bt a0_0 x7_1) == 45) (wrap64 (x7_1 + 1)) a0_0 a0_1) else (if (bt a0_0 x7_1) = 43 then (sennitref21_may.l0 k1 a1 ((bt a0_0 x7_1) == 43) ((bt a0_0 x7_1) == 45) (wrap64 (x7_1 + 1)) a0_0 a0_1) else (if (bt a0_0 x7_1) = 45 then (sennitref21_may.l0 k1 a1 ((bt a0_0 x7_1) == 43) ((bt a0_0 x7_1) == 45) (wrap64 (x7_1 + 1)) a0_0 a0_1) else (some false)))) = some r := by rw [if_neg (show ¬ (false = true) by decide)] at H; exact H
              clear H
              have H := H1
              clear H1
              by_cases c31 : (bt a0_0 x7_1) = 32
              · rw [if_pos c31] at H
                have c31b0 : ((bt a0_0 x7_1) == 32) = true := beq_iff_eq.mpr c31
                have c31b1 : ((bt a0_0 x7_1) != 32) = false := bne_eq_false_iff_eq.mpr c31
                clear c31
                have H' := Aside0.mk H
                clear H
                have hcz32_0 : wr.cell? ⟨gb113, 0, none⟩ = some (.string a0_0) := (blk_cell BK113.out 0).trans rfl
                have hcz32_1 : wr.cell? ⟨gb113, 1, none⟩ = some (.string a0_1) := (blk_cell BK113.out 1).trans rfl
                have hfz32_0 := blk_frozen BK113.out 0
                have hfz32_1 := blk_frozen BK113.out 1
                have p6 : 0 ≤ (x7_1 : Int) := of_decide_eq_true (by first | (with_reducible assumption) | assumption)
                have q6 : x7_1 < (a0_0.size : Int) := of_decide_eq_true (by first | (with_reducible assumption) | assumption)
                have hx6 := bt_at a0_0 x7_1
                replace p6 := eq_true p6
                replace q6 := eq_true q6
                go_wp2
                go_roundg k1
                case measure => have := HK1.out; omega
                case rel => exact ⟨(((bt a0_0 x7_1) == 43)), (((bt a0_0 x7_1) == 45)), (wrap64 (x7_1 + 1)), (by first | rfl | (simp; done) | (simp [*]; done)), (by first | rfl | (simp; done) | (simp [*]; done)), (by first | rfl | (simp; done) | (simp [*]; done)), H', ⟨by have := HK1.out; omega⟩, ⟨by (with_reducible repeat (first | refine blk_drewN ?_ _ | refine blk_drew ?_ | refine blk_alloc ?_ _)); exact BK113.out⟩, ⟨by repeat (first | (with_reducible first | exact HB.out | apply below_alloc | apply pw_below_drewN | apply below_drew1 | refine below_set ?_ GE113.out) | exact HB.out)⟩⟩
              · rw [if_neg c31] at H
                have c31b0 : ((bt a0_0 x7_1) == 32) = false := beq_eq_false_iff_ne.mpr c31
                have c31b1 : ((bt a0_0 x7_1) != 32) = true := bne_iff_ne.mpr c31
                by_cases c33 : (bt a0_0 x7_1) = 43
                · rw [if_pos c33] at H
                  have c33b0 : ((bt a0_0 x7_1) == 43) = true := beq_iff_eq.mpr c33
                  have c33b1 : ((bt a0_0 x7_1) != 43) = false := bne_eq_false_iff_eq.mpr c33
                  clear c33
                  have H' := Aside0.mk H
                  clear H
                  have hcz34_0 : wr.cell? ⟨gb113, 0, none⟩ = some (.string a0_0) := (blk_cell BK113.out 0).trans rfl
                  have hcz34_1 : wr.cell? ⟨gb113, 1, none⟩ = some (.string a0_1) := (blk_cell BK113.out 1).trans rfl
                  have hfz34_0 := blk_frozen BK113.out 0
                  have hfz34_1 := blk_frozen BK113.out 1
                  have p6 : 0 ≤ (x7_1 : Int) := of_decide_eq_true (by first | (with_reducible assumption) | assumption)
                  have q6 : x7_1 < (a0_0.size : Int) := of_decide_eq_true (by first | (with_reducible assumption) | assumption)
                  have hx6 := bt_at a0_0 x7_1
                  replace p6 := eq_true p6
                  replace q6 := eq_true q6
                  go_wp2
                  go_roundg k1
                  case measure => have := HK1.out; omega
                  case rel => exact ⟨(((bt a0_0 x7_1) == 43)), (((bt a0_0 x7_1) == 45)), (wrap64 (x7_1 + 1)), (by first | rfl | (simp; done) | (simp [*]; done)), (by first | rfl | (simp; done) | (simp [*]; done)), (by first | rfl | (simp; done) | (simp [*]; done)), H', ⟨by have := HK1.out; omega⟩, ⟨by (with_reducible repeat (first | refine blk_drewN ?_ _ | refine blk_drew ?_ | refine blk_alloc ?_ _)); exact BK113.out⟩, ⟨by repeat (first | (with_reducible first | exact HB.out | apply below_alloc | apply pw_below_drewN | apply below_drew1 | refine below_set ?_ GE113.out) | exact HB.out)⟩⟩
                · rw [if_neg c33] at H
                  have c33b0 : ((bt a0_0 x7_1) == 43) = false := beq_eq_false_iff_ne.mpr c33
                  have c33b1 : ((bt a0_0 x7_1) != 43) = true := bne_iff_ne.mpr c33
                  by_cases c35 : (bt a0_0 x7_1) = 45
                  · rw [if_pos c35] at H
                    have c35b0 : ((bt a0_0 x7_1) == 45) = true := beq_iff_eq.mpr c35
                    have c35b1 : ((bt a0_0 x7_1) != 45) = false := bne_eq_false_iff_eq.mpr c35
                    clear c35
                    have H' := Aside0.mk H
                    clear H
                    have hcz36_0 : wr.cell? ⟨gb113, 0, none⟩ = some (.string a0_0) := (blk_cell BK113.out 0).trans rfl
                    have hcz36_1 : wr.cell? ⟨gb113, 1, none⟩ = some (.string a0_1) := (blk_cell BK113.out 1).trans rfl
                    have hfz36_0 := blk_frozen BK113.out 0
                    have hfz36_1 := blk_frozen BK113.out 1
                    have p6 : 0 ≤ (x7_1 : Int) := of_decide_eq_true (by first | (with_reducible assumption) | assumption)
                    have q6 : x7_1 < (a0_0.size : Int) := of_decide_eq_true (by first | (with_reducible assumption) | assumption)
                    have hx6 := bt_at a0_0 x7_1
                    replace p6 := eq_true p6
                    replace q6 := eq_true q6
                    go_wp2
                    go_roundg k1
                    case measure => have := HK1.out; omega
                    case rel => exact ⟨(((bt a0_0 x7_1) == 43)), (((bt a0_0 x7_1) == 45)), (wrap64 (x7_1 + 1)), (by first | rfl | (simp; done) | (simp [*]; done)), (by first | rfl | (simp; done) | (simp [*]; done)), (by first | rfl | (simp; done) | (simp [*]; done)), H', ⟨by have := HK1.out; omega⟩, ⟨by (with_reducible repeat (first | refine blk_drewN ?_ _ | refine blk_drew ?_ | refine blk_alloc ?_ _)); exact BK113.out⟩, ⟨by repeat (first | (with_reducible first | exact HB.out | apply below_alloc | apply pw_below_drewN | apply below_drew1 | refine below_set ?_ GE113.out) | exact HB.out)⟩⟩
                  · rw [if_neg c35] at H
                    have c35b0 : ((bt a0_0 x7_1) == 45) = false := beq_eq_false_iff_ne.mpr c35
                    have c35b1 : ((bt a0_0 x7_1) != 45) = true := bne_iff_ne.mpr c35
                    obtain rfl := Option.some.inj H
                    have hcz37_0 : wr.cell? ⟨gb113, 0, none⟩ = some (.string a0_0) := (blk_cell BK113.out 0).trans rfl
                    have hcz37_1 : wr.cell? ⟨gb113, 1, none⟩ = some (.string a0_1) := (blk_cell BK113.out 1).trans rfl
                    have hfz37_0 := blk_frozen BK113.out 0
                    have hfz37_1 := blk_frozen BK113.out 1
                    have p6 : 0 ≤ (x7_1 : Int) := of_decide_eq_true (by first | (with_reducible assumption) | assumption)
                    have q6 : x7_1 < (a0_0.size : Int) := of_decide_eq_true (by first | (with_reducible assumption) | assumption)
                    have hx6 := bt_at a0_0 x7_1
                    replace p6 := eq_true p6
                    replace q6 := eq_true q6
                    go_wp2
                    go_ret
                    exact ⟨by first | rfl | (simp [errW_none, errW_some] <;> rfl) | (simp [*, errW_none, errW_some] <;> rfl), by repeat (first | (with_reducible first | exact HB.out | apply below_alloc | apply pw_below_drewN | apply below_drew1 | refine below_set ?_ GE113.out) | exact HB.out)⟩
        · rw [if_neg c5] at H
          exact absurd H (by simp)
      · rw [if_neg c4] at H
        have c4b0 : decide (x7_1 < (a0_0.size : Int)) = false := decide_eq_false c4
        clear c4
        by_cases c38 : (a0_0.size : Int) = a1
        · rw [if_pos c38] at H
          have c38b0 : ((a0_0.size : Int) == a1) = true := beq_iff_eq.mpr c38
          have c38b1 : ((a0_0.size : Int) != a1) = false := bne_eq_false_iff_eq.mpr c38
          clear c38
          by_cases c39 : x5_1 = true
          · subst c39
            have H1 : (if x6_1 = true then (some false) else ((sennitref01_May.f k1 (([a0_1] : List ByteArray))).bind fun t117 => (some t117))) = some r := by rw [if_pos rfl] at H; exact H
            clear H
            have H := H1
            clear H1
            by_cases c40 : x6_1 = true
            · subst c40
              have H1 : (some false) = some r := by rw [if_pos rfl] at H; exact H
              clear H
              have H := H1
              clear H1
              obtain rfl := Option.some.inj H
              have hcz41_0 : wr.cell? ⟨gb113, 0, none⟩ = some (.string a0_0) := (blk_cell BK113.out 0).trans rfl
              have hcz41_1 : wr.cell? ⟨gb113, 1, none⟩ = some (.string a0_1) := (blk_cell BK113.out 1).trans rfl
              have hfz41_0 := blk_frozen BK113.out 0
              have hfz41_1 := blk_frozen BK113.out 1
              go_wp2
              go_ret
              exact ⟨by first | rfl | (simp [errW_none, errW_some] <;> rfl) | (simp [*, errW_none, errW_some] <;> rfl), by repeat (first | (with_reducible first | exact HB.out | apply below_alloc | apply pw_below_drewN | apply below_drew1 | refine below_set ?_ GE113.out) | exact HB.out)⟩
            · replace c40 := Bool.eq_false_iff.mpr c40
              subst c40
              have H1 : ((sennitref01_May.f k1 (([a0_1] : List ByteArray))).bind fun t117 => (some t117)) = some r := by rw [if_neg (show ¬ (false = true) by decide)] at H; exact H
              clear H
              have H := H1
              clear H1
              obtain ⟨y114, hy114⟩ : ∃ y_ : List ByteArray, y_ = (([a0_1] : List ByteArray)) := ⟨_, rfl⟩
              replace H : ((sennitref01_May.f k1 y114).bind fun t117 => (some t117)) = some r := by first | (rw [hy114]; with_reducible exact H) | (have H2_ := (Option.bind_some _ _).symm.trans H; rw [hy114]; with_reducible exact H2_) | (have H2_ := (Option.bind_some _ _).symm.trans H; with_reducible exact H2_) | with_reducible exact H | (rw [hy114]; exact H) | exact H
              have Ny114 := Aside0.mk hy114
              clear hy114
              replace H := Option.bind_eq_some_iff.mp H
              obtain ⟨t117, A420, H⟩ := H
              replace H : (some t117) = some r := H
              have A42 := Aside0.mk A420
              clear A420
              obtain rfl := Option.some.inj H
              have hcz43_0 : wr.cell? ⟨gb113, 0, none⟩ = some (.string a0_0) := (blk_cell BK113.out 0).trans rfl
              have hcz43_1 : wr.cell? ⟨gb113, 1, none⟩ = some (.string a0_1) := (blk_cell BK113.out 1).trans rfl
              have hfz43_0 := blk_frozen BK113.out 0
              have hfz43_1 := blk_frozen BK113.out 1
              go_wp2_with (first | ((with_reducible refine gate_dst (N := 55) rfl ?_); (try (refine gate_guard (by rfl) ?_; dsimp only)); refine Kd.R_lit Kd.string _ 9 ?hg (N := 55) ?hd (xs := ([a0_1] : List ByteArray)) (inner := [.string a0_1]) (ok := fun _ => True) (okp := fun _ => True) ?hr ?hp (fun _ hk => hk) trivial (Below.refl _ _) (Nat.le_refl _) (by simp) ?_; (case hd => rfl); (case hg => rfl); (case hr => first | (go_simp; done) | (go_simp; rfl)); (case hp => exact (Reps.one (show Kd.M Kd.string _ _ _ a0_1 [.string a0_1] from rfl) (Reps.none _ _))); intro v115 w44 ho45 hb hg_ hnew_; clear hg_ hnew_; (first | rw [← Ny114.out] at ho45 | (simp only [Int.reduceToNat] at ho45; rw [← Ny114.out] at ho45)); have n0_ := Aside0.mk (Kd.R_lower ho45 (below_size (by repeat (first | (with_reducible first | exact HB.out | apply below_alloc | apply pw_below_drewN | apply below_drew1 | refine below_set ?_ GE113.out) | exact HB.out)))); have n1_ := Aside0.mk (blk_below (g := gb113) (o := .cells #[.string a0_0, .string a0_1] 57 (0, 0)) (by (with_reducible repeat (first | refine blk_drewN ?_ _ | refine blk_drew ?_ | refine blk_alloc ?_ _)); exact BK113.out) hb); have n2_ := Aside0.mk (below_step (by repeat (first | (with_reducible first | exact HB.out | apply below_alloc | apply pw_below_drewN | apply below_drew1 | refine below_set ?_ GE113.out) | exact HB.out)) hb); clear BK113; clear HB; have HO116 := n0_; have BK113 := n1_; have HB := n2_; clear n0_ n1_ n2_; clear hb ho45; obtain ⟨Ao46, co46, eo46⟩ := Kd.R_slice HO116.out; subst eo46) | (go_at_call 25; (with_reducible refine (sennitref01_May.calls k1 _ _ y114 t117 _ ?side1 ?side2 A42.out).mono ?_); (case side1 => repeat (first | exact (Kd.R_reads' HO116.out).2.2 | (with_reducible refine Kd.C_alloc ?_ _) | (with_reducible refine Kd.C_drewN ?_ _) | (with_reducible refine Kd.C_drew ?_))); (case side2 => exact (Kd.R_reads' HO116.out).2.1); rintro e w' ⟨rfl, ⟨nd, rfl⟩⟩))
              go_ret
              exact ⟨by first | rfl | (simp [errW_none, errW_some] <;> rfl) | (simp [*, errW_none, errW_some] <;> rfl), by repeat (first | (with_reducible first | exact HB.out | apply below_alloc | apply pw_below_drewN | apply below_drew1 | refine below_set ?_ GE113.out) | exact HB.out)⟩
          · replace c39 := Bool.eq_false_iff.mpr c39
            subst c39
            have H1 : ((sennitref01_May.f k1 (([a0_1] : List ByteArray))).bind fun t121 => (some t121)) = some r := by rw [if_neg (show ¬ (false = true) by decide)] at H; exact H
            clear H
            have H := H1
            clear H1
            obtain ⟨y118, hy118⟩ : ∃ y_ : List ByteArray, y_ = (([a0_1] : List ByteArray)) := ⟨_, rfl⟩
            replace H : ((sennitref01_May.f k1 y118).bind fun t121 => (some t121)) = some r := by first | (rw [hy118]; with_reducible exact H) | (have H2_ := (Option.bind_some _ _).symm.trans H; rw [hy118]; with_reducible exact H2_) | (have H2_ := (Option.bind_some _ _).symm.trans H; with_reducible exact H2_) | with_reducible exact H | (rw [hy118]; exact H) | exact H
            have Ny118 := Aside0.mk hy118
            clear hy118
            replace H := Option.bind_eq_some_iff.mp H
            obtain ⟨t121, A470, H⟩ := H
            replace H : (some t121) = some r := H
            have A47 := Aside0.mk A470
            clear A470
            obtain rfl := Option.some.inj H
            have hcz48_0 : wr.cell? ⟨gb113, 0, none⟩ = some (.string a0_0) := (blk_cell BK113.out 0).trans rfl
            have hcz48_1 : wr.cell? ⟨gb113, 1, none⟩ = some (.string a0_1) := (blk_cell BK113.out 1).trans rfl
            have hfz48_0 := blk_frozen BK113.out 0
            have hfz48_1 := blk_frozen BK113.out 1
            go_wp2_with (first | ((with_reducible refine gate_dst (N := 55) rfl ?_); (try (refine gate_guard (by rfl) ?_; dsimp only)); refine Kd.R_lit Kd.string _ 9 ?hg (N := 55) ?hd (xs := ([a0_1] : List ByteArray)) (inner := [.string a0_1]) (ok := fun _ => True) (okp := fun _ => True) ?hr ?hp (fun _ hk => hk) trivial (Below.refl _ _) (Nat.le_refl _) (by simp) ?_; (case hd => rfl); (case hg => rfl); (case hr => first | (go_simp; done) | (go_simp; rfl)); (case hp => exact (Reps.one (show Kd.M Kd.string _ _ _ a0_1 [.string a0_1] from rfl) (Reps.none _ _))); intro v119 w49 ho50 hb hg_ hnew_; clear hg_ hnew_; (first | rw [← Ny118.out] at ho50 | (simp only [Int.reduceToNat] at ho50; rw [← Ny118.out] at ho50)); have n0_ := Aside0.mk (Kd.R_lower ho50 (below_size (by repeat (first | (with_reducible first | exact HB.out | apply below_alloc | apply pw_below_drewN | apply below_drew1 | refine below_set ?_ GE113.out) | exact HB.out)))); have n1_ := Aside0.mk (blk_below (g := gb113) (o := .cells #[.string a0_0, .string a0_1] 57 (0, 0)) (by (with_reducible repeat (first | refine blk_drewN ?_ _ | refine blk_drew ?_ | refine blk_alloc ?_ _)); exact BK113.out) hb); have n2_ := Aside0.mk (below_step (by repeat (first | (with_reducible first | exact HB.out | apply below_alloc | apply pw_below_drewN | apply below_drew1 | refine below_set ?_ GE113.out) | exact HB.out)) hb); clear BK113; clear HB; have HO120 := n0_; have BK113 := n1_; have HB := n2_; clear n0_ n1_ n2_; clear hb ho50; obtain ⟨Ao51, co51, eo51⟩ := Kd.R_slice HO120.out; subst eo51) | (go_at_call 25; (with_reducible refine (sennitref01_May.calls k1 _ _ y118 t121 _ ?side1 ?side2 A47.out).mono ?_); (case side1 => repeat (first | exact (Kd.R_reads' HO120.out).2.2 | (with_reducible refine Kd.C_alloc ?_ _) | (with_reducible refine Kd.C_drewN ?_ _) | (with_reducible refine Kd.C_drew ?_))); (case side2 => exact (Kd.R_reads' HO120.out).2.1); rintro e w' ⟨rfl, ⟨nd, rfl⟩⟩))
            go_ret
            exact ⟨by first | rfl | (simp [errW_none, errW_some] <;> rfl) | (simp [*, errW_none, errW_some] <;> rfl), by repeat (first | (with_reducible first | exact HB.out | apply below_alloc | apply pw_below_drewN | apply below_drew1 | refine below_set ?_ GE113.out) | exact HB.out)⟩
        · rw [if_neg c38] at H
          have c38b0 : ((a0_0.size : Int) == a1) = false := beq_eq_false_iff_ne.mpr c38
          have c38b1 : ((a0_0.size : Int) != a1) = true := bne_iff_ne.mpr c38
          obtain rfl := Option.some.inj H
          have hcz52_0 : wr.cell? ⟨gb113, 0, none⟩ = some (.string a0_0) := (blk_cell BK113.out 0).trans rfl
          have hcz52_1 : wr.cell? ⟨gb113, 1, none⟩ = some (.string a0_1) := (blk_cell BK113.out 1).trans rfl
          have hfz52_0 := blk_frozen BK113.out 0
          have hfz52_1 := blk_frozen BK113.out 1
          go_wp2
          go_ret
          exact ⟨by first | rfl | (simp [errW_none, errW_some] <;> rfl) | (simp [*, errW_none, errW_some] <;> rfl), by repeat (first | (with_reducible first | exact HB.out | apply below_alloc | apply pw_below_drewN | apply below_drew1 | refine below_set ?_ GE113.out) | exact HB.out)⟩

def sennitref21_May.l0 : Nat → List (S57) → Int → Option (Bool)
  | 0, _, _ => none
  | k + 1, x0, x3 => if x3 < (x0.length : Int) then (if 0 < (x0.length : Int) then (if (((rd_T57 x0 0).f0).size : Int) < 1 then (some false) else (if (((rd_T57 x0 0).f0).size : Int) > 16 then (some false) else (if 0 ≤ x3 then ((sennitref21_may.f k ((rd_T57 x0 x3).f0) ((rd_T57 x0 x3).f1) (((rd_T57 x0 0).f0).size : Int)).bind fun t124 => (if t124 = true then (sennitref21_May.l0 k x0 (wrap64 (x3 + 1))) else (some false))) else (none)))) else (none)) else (some true)
def sennitref21_May.f (k : Nat) (l0 : List (S57)) : Option (Bool) := sennitref21_May.l0 k l0 0
set_option maxHeartbeats 8000000 in
set_option maxRecDepth 100000 in
theorem sennitref21_May.calls (k : Nat) (A0 : Option Addr) (c0 : Nat) (l0 : List (S57)) (r : Bool) (w : World) (hr0 : Kd.C k57 w A0 l0.length l0) (hc0 : l0.length ≤ c0) (h : sennitref21_May.f k l0 = some r) :
    Calls Tryd.prog 30 #[.slice A0 l0.length c0] w fun e w' => e = .returned (.bool r) ∧ Below w.heap.size w w' := by
  have hu57 := Tryd.underlying57
  have HR0 := Aside0.mk hr0
  have HC0 := Aside0.mk hc0
  clear hr0 hc0
  have HB := Aside0.mk (Below.refl w.heap.size w)
  have H : (sennitref21_May.l0 k l0 0) = some r := h
  clear h
  have H' := Aside0.mk H
  clear H
  go_enter Tryd.func30, Tryd.ntmps30
  go_wp2
  go_loopg [3] k (fun kq v3 w' => ∃ (x3_1 : Int), v3 = .int .i64 x3_1 ∧ Aside0 (sennitref21_May.l0 kq l0 x3_1 = some r) ∧ Aside0 (kq ≤ k) ∧ Aside0 (Below w.heap.size w w'))
  case atStart => exact ⟨(0), (by first | rfl | (simp; done) | (simp [*]; done)), H', ⟨Nat.le_refl _⟩, ⟨by repeat (first | (with_reducible first | exact HB.out | apply below_alloc | apply pw_below_drewN | apply below_drew1) | exact HB.out)⟩⟩
  case round =>
    clear H'
    obtain ⟨x3_1, rfl, HA, HK1, HB⟩ := hrel
    cases gk with
    | zero => exact absurd HA.out (by simp [sennitref21_May.l0])
    | succ k1 =>
      have H := HA.out
      clear HA
      simp only [sennitref21_May.l0] at H
      by_cases c2 : x3_1 < (l0.length : Int)
      · rw [if_pos c2] at H
        have c2b0 : decide (x3_1 < (l0.length : Int)) = true := decide_eq_true c2
        clear c2
        by_cases c3 : 0 < (l0.length : Int)
        · rw [if_pos c3] at H
          have c3b0 : decide (0 < (l0.length : Int)) = true := decide_eq_true c3
          have c3b1 : decide (0 < l0.length) = true := decide_eq_true (by omega)
          clear c3
          by_cases c4 : (((rd_T57 l0 0).f0).size : Int) < 1
          · rw [if_pos c4] at H
            have c4b0 : decide ((((rd_T57 l0 0).f0).size : Int) < 1) = true := decide_eq_true c4
            have c4b1 : decide (((rd_T57 l0 0).f0).size < 1) = true := decide_eq_true (by omega)
            clear c4
            obtain rfl := Option.some.inj H
            have p122 : 0 ≤ (0 : Int) := (by omega)
            have q122 : 0 < (l0.length : Int) := of_decide_eq_true (by first | (with_reducible assumption) | assumption)
            obtain ⟨ad122, e122, hx122_0, hx122_1⟩ := at_T57 HR0.out 0 p122 q122
            cases e122
            have qi122 : (0 < l0.length) = True := eq_true (by omega)
            (try rw [show ((0 : Int)).toNat = 0 from rfl] at hx122_0)
            (try rw [show 0 * 2 = 0 from rfl] at hx122_0)
            (try rw [Addr.add_zero'] at hx122_0)
            (try rw [show ((0 : Int)).toNat = 0 from rfl] at hx122_1)
            (try rw [show 0 * 2 = 0 from rfl] at hx122_1)
            (try rw [Addr.add_zero'] at hx122_1)
            replace hx122_0 := (HB.out.cell (World.block_lt_of_cell? w _ hx122_0)).trans hx122_0
            replace hx122_1 := (HB.out.cell (World.block_lt_of_cell? w _ hx122_1)).trans hx122_1
            replace p122 := eq_true p122
            replace q122 := eq_true q122
            go_wp2
            go_ret
            exact ⟨by first | rfl | (simp [errW_none, errW_some] <;> rfl) | (simp [*, errW_none, errW_some] <;> rfl), by repeat (first | (with_reducible first | exact HB.out | apply below_alloc | apply pw_below_drewN | apply below_drew1) | exact HB.out)⟩
          · rw [if_neg c4] at H
            have c4b0 : decide ((((rd_T57 l0 0).f0).size : Int) < 1) = false := decide_eq_false c4
            have c4b1 : decide (((rd_T57 l0 0).f0).size < 1) = false := decide_eq_false (by omega)
            clear c4
            by_cases c5 : (((rd_T57 l0 0).f0).size : Int) > 16
            · rw [if_pos c5] at H
              have c5b0 : decide (16 < (((rd_T57 l0 0).f0).size : Int)) = true := decide_eq_true c5
              have c5b1 : decide (16 < ((rd_T57 l0 0).f0).size) = true := decide_eq_true (by omega)
              clear c5
              obtain rfl := Option.some.inj H
              have p122 : 0 ≤ (0 : Int) := (by omega)
              have q122 : 0 < (l0.length : Int) := of_decide_eq_true (by first | (with_reducible assumption) | assumption)
              obtain ⟨ad122, e122, hx122_0, hx122_1⟩ := at_T57 HR0.out 0 p122 q122
              cases e122
              have qi122 : (0 < l0.length) = True := eq_true (by omega)
              (try rw [show ((0 : Int)).toNat = 0 from rfl] at hx122_0)
              (try rw [show 0 * 2 = 0 from rfl] at hx122_0)
              (try rw [Addr.add_zero'] at hx122_0)
              (try rw [show ((0 : Int)).toNat = 0 from rfl] at hx122_1)
              (try rw [show 0 * 2 = 0 from rfl] at hx122_1)
              (try rw [Addr.add_zero'] at hx122_1)
              replace hx122_0 := (HB.out.cell (World.block_lt_of_cell? w _ hx122_0)).trans hx122_0
              replace hx122_1 := (HB.out.cell (World.block_lt_of_cell? w _ hx122_1)).trans hx122_1
              replace p122 := eq_true p122
              replace q122 := eq_true q122
              go_wp2
              go_ret
              exact ⟨by first | rfl | (simp [errW_none, errW_some] <;> rfl) | (simp [*, errW_none, errW_some] <;> rfl), by repeat (first | (with_reducible first | exact HB.out | apply below_alloc | apply pw_below_drewN | apply below_drew1) | exact HB.out)⟩
            · rw [if_neg c5] at H
              have c5b0 : decide (16 < (((rd_T57 l0 0).f0).size : Int)) = false := decide_eq_false c5
              have c5b1 : decide (16 < ((rd_T57 l0 0).f0).size) = false := decide_eq_false (by omega)
              clear c5
              by_cases c6 : 0 ≤ x3_1
              · rw [if_pos c6] at H
                have c6b0 : decide (0 ≤ x3_1) = true := decide_eq_true c6
                clear c6
                replace H := Option.bind_eq_some_iff.mp H
                obtain ⟨t124, A70, H⟩ := H
                replace H : (if t124 = true then (sennitref21_May.l0 k1 l0 (wrap64 (x3_1 + 1))) else (some false)) = some r := H
                have A7 := Aside0.mk A70
                clear A70
                by_cases c8 : t124 = true
                · subst c8
                  have H1 : (sennitref21_May.l0 k1 l0 (wrap64 (x3_1 + 1))) = some r := by rw [if_pos rfl] at H; exact H
                  clear H
                  have H := H1
                  clear H1
                  have H' := Aside0.mk H
                  clear H
                  have p122 : 0 ≤ (0 : Int) := (by omega)
                  have q122 : 0 < (l0.length : Int) := of_decide_eq_true (by first | (with_reducible assumption) | assumption)
                  obtain ⟨ad122, e122, hx122_0, hx122_1⟩ := at_T57 HR0.out 0 p122 q122
                  cases e122
                  have qi122 : (0 < l0.length) = True := eq_true (by omega)
                  (try rw [show ((0 : Int)).toNat = 0 from rfl] at hx122_0)
                  (try rw [show 0 * 2 = 0 from rfl] at hx122_0)
                  (try rw [Addr.add_zero'] at hx122_0)
                  (try rw [show ((0 : Int)).toNat = 0 from rfl] at hx122_1)
                  (try rw [show 0 * 2 = 0 from rfl] at hx122_1)
                  (try rw [Addr.add_zero'] at hx122_1)
                  replace hx122_0 := (HB.out.cell (World.block_lt_of_cell? w _ hx122_0)).trans hx122_0
                  replace hx122_1 := (HB.out.cell (World.block_lt_of_cell? w _ hx122_1)).trans hx122_1
                  replace p122 := eq_true p122
                  replace q122 := eq_true q122
                  have p123 : 0 ≤ (x3_1 : Int) := of_decide_eq_true (by first | (with_reducible assumption) | assumption)
                  have q123 : x3_1 < (l0.length : Int) := of_decide_eq_true (by first | (with_reducible assumption) | assumption)
                  obtain ⟨ad123, e123, hx123_0, hx123_1⟩ := at_T57 HR0.out x3_1 p123 q123
                  obtain rfl : ad122 = ad123 := (by injection e123)
                  replace hx123_0 := (HB.out.cell (World.block_lt_of_cell? w _ hx123_0)).trans hx123_0
                  replace hx123_1 := (HB.out.cell (World.block_lt_of_cell? w _ hx123_1)).trans hx123_1
                  replace p123 := eq_true p123
                  replace q123 := eq_true q123
                  go_wp2_with (first | (go_at_call 57; (with_reducible refine (sennitref21_may.calls k1 ((rd_T57 l0 x3_1).f0) ((rd_T57 l0 x3_1).f1) (((rd_T57 l0 0).f0).size : Int) true _ A7.out).mono ?_); rintro e w9 ⟨rfl, hb⟩; have n0_ := Aside0.mk (below_step (by repeat (first | (with_reducible first | exact HB.out | apply below_alloc | apply pw_below_drewN | apply below_drew1) | exact HB.out)) hb); clear HB; have HB := n0_; clear n0_; (try clear hb); (try clear hb2); (try clear hk); (try clear hi)))
                  go_roundg k1
                  case measure => have := HK1.out; omega
                  case rel => exact ⟨(wrap64 (x3_1 + 1)), (by first | rfl | (simp; done) | (simp [*]; done)), H', ⟨by have := HK1.out; omega⟩, ⟨by repeat (first | (with_reducible first | exact HB.out | apply below_alloc | apply pw_below_drewN | apply below_drew1) | exact HB.out)⟩⟩
                · replace c8 := Bool.eq_false_iff.mpr c8
                  subst c8
                  have H1 : (some false) = some r := by rw [if_neg (show ¬ (false = true) by decide)] at H; exact H
                  clear H
                  have H := H1
                  clear H1
                  obtain rfl := Option.some.inj H
                  have p122 : 0 ≤ (0 : Int) := (by omega)
                  have q122 : 0 < (l0.length : Int) := of_decide_eq_true (by first | (with_reducible assumption) | assumption)
                  obtain ⟨ad122, e122, hx122_0, hx122_1⟩ := at_T57 HR0.out 0 p122 q122
                  cases e122
                  have qi122 : (0 < l0.length) = True := eq_true (by omega)
                  (try rw [show ((0 : Int)).toNat = 0 from rfl] at hx122_0)
                  (try rw [show 0 * 2 = 0 from rfl] at hx122_0)
                  (try rw [Addr.add_zero'] at hx122_0)
                  (try rw [show ((0 : Int)).toNat = 0 from rfl] at hx122_1)
                  (try rw [show 0 * 2 = 0 from rfl] at hx122_1)
                  (try rw [Addr.add_zero'] at hx122_1)
                  replace hx122_0 := (HB.out.cell (World.block_lt_of_cell? w _ hx122_0)).trans hx122_0
                  replace hx122_1 := (HB.out.cell (World.block_lt_of_cell? w _ hx122_1)).trans hx122_1
                  replace p122 := eq_true p122
                  replace q122 := eq_true q122
                  have p123 : 0 ≤ (x3_1 : Int) := of_decide_eq_true (by first | (with_reducible assumption) | assumption)
                  have q123 : x3_1 < (l0.length : Int) := of_decide_eq_true (by first | (with_reducible assumption) | assumption)
                  obtain ⟨ad123, e123, hx123_0, hx123_1⟩ := at_T57 HR0.out x3_1 p123 q123
                  obtain rfl : ad122 = ad123 := (by injection e123)
                  replace hx123_0 := (HB.out.cell (World.block_lt_of_cell? w _ hx123_0)).trans hx123_0
                  replace hx123_1 := (HB.out.cell (World.block_lt_of_cell? w _ hx123_1)).trans hx123_1
                  replace p123 := eq_true p123
                  replace q123 := eq_true q123
                  go_wp2_with (first | (go_at_call 57; (with_reducible refine (sennitref21_may.calls k1 ((rd_T57 l0 x3_1).f0) ((rd_T57 l0 x3_1).f1) (((rd_T57 l0 0).f0).size : Int) false _ A7.out).mono ?_); rintro e w10 ⟨rfl, hb⟩; have n0_ := Aside0.mk (below_step (by repeat (first | (with_reducible first | exact HB.out | apply below_alloc | apply pw_below_drewN | apply below_drew1) | exact HB.out)) hb); clear HB; have HB := n0_; clear n0_; (try clear hb); (try clear hb2); (try clear hk); (try clear hi)))
                  go_ret
                  exact ⟨by first | rfl | (simp [errW_none, errW_some] <;> rfl) | (simp [*, errW_none, errW_some] <;> rfl), by repeat (first | (with_reducible first | exact HB.out | apply below_alloc | apply pw_below_drewN | apply below_drew1) | exact HB.out)⟩
              · rw [if_neg c6] at H
                exact absurd H (by simp)
        · rw [if_neg c3] at H
          exact absurd H (by simp)
      · rw [if_neg c2] at H
        have c2b0 : decide (x3_1 < (l0.length : Int)) = false := decide_eq_false c2
        clear c2
        obtain rfl := Option.some.inj H
        go_wp2
        go_ret
        exact ⟨by first | rfl | (simp [errW_none, errW_some] <;> rfl) | (simp [*, errW_none, errW_some] <;> rfl), by repeat (first | (with_reducible first | exact HB.out | apply below_alloc | apply pw_below_drewN | apply below_drew1) | exact HB.out)⟩

end Go.Proofs.YthcnfflhejogfaaDoor.X
-- part XKit
namespace Go.Proofs.YthcnfflhejogfaaDoor.X
open Go.RowKit Go.Proofs.YthcnfflhejogfaaDoorW.PrintWords Go.Proofs.YthcnfflhejogfaaDoorW.PrintLast Go.Proofs.YthcnfflhejogfaaDoorW.PrintMore
set_option linter.unusedVariables false
set_option linter.unusedSimpArgs false
/-- A step of a call that keeps the old: as seen from the law's world. -/
theorem far_ {W w w' : World} (h : Below W.heap.size W w) (hb : Below w.heap.size w w') : Below W.heap.size W w' := h.trans (hb.mono h.size)
theorem getD_get {α : Type} {d : α} {l : List α} {i : Nat} (h : i < l.length) : l.getD i d = l[i] := by simp [h]
end Go.Proofs.YthcnfflhejogfaaDoor.X
-- part XBlk
namespace Go.Proofs.YthcnfflhejogfaaDoor.X
open Go.RowKit Go.Proofs.YthcnfflhejogfaaDoorW.PrintWords Go.Proofs.YthcnfflhejogfaaDoorW.PrintLast Go.Proofs.YthcnfflhejogfaaDoorW.PrintMore
set_option linter.unusedVariables false
set_option linter.unusedSimpArgs false
theorem blkNe {W : World} {a b : Nat} {cs cs' : Array Value} {t t' : TypeId} (h : W.heap[a]? = some (.cells cs t (0, 0))) (k : W.heap[b]? = some (.cells cs' t' (0, 0))) (ht : t ≠ t') : a ≠ b := by
  rintro rfl
  rw [h] at k
  injection k with k
  injection k with _ e _
  exact ht e
theorem setKeep {W : World} {b g j : Nat} {o : Obj} (h : W.heap[b]? = some o) (hne : b ≠ g) (v : Value) : (W.setCell ⟨g, j, none⟩ v).heap[b]? = some o := (heap_set_other hne v).trans h
theorem farKeep {W W' : World} {k : Nat} {o : Obj} (h : W.heap[k]? = some o) (hb : Below W.heap.size W W') : W'.heap[k]? = some o := (hb.block k (Array.getElem?_eq_some_iff.1 h).1).trans h
theorem newKeep {W : World} {k : Nat} {o : Obj} (h : W.heap[k]? = some o) (o' : Obj) : (W.alloc o').heap[k]? = some o := (heap_alloc_old _ _ (Array.getElem?_eq_some_iff.1 h).1).trans h
theorem newBelow (W : World) (o : Obj) : Below W.heap.size W (W.alloc o) := (Below.refl _ W).alloc (Nat.le_refl _) o
end Go.Proofs.YthcnfflhejogfaaDoor.X
-- part XGives
namespace Go.Proofs.YthcnfflhejogfaaDoor.X
open Go.RowKit Go.Proofs.YthcnfflhejogfaaDoorW.PrintWords Go.Proofs.YthcnfflhejogfaaDoorW.PrintLast Go.Proofs.YthcnfflhejogfaaDoorW.PrintMore
set_option linter.unusedVariables false
set_option linter.unusedSimpArgs false
section
variable {α β : Type} {f g : Nat → Option α} {c : Nat → Option β} {r r' : α} {t : β}
/-- With rounds enough it tells r. -/
def Gives (f : Nat → Option α) (r : α) : Prop := ∃ K, ∀ k, K ≤ k → f k = some r
theorem Gives.pure (h : ∀ k, f k = some r) : Gives f r := ⟨0, fun k _ => h k⟩
theorem Gives.of (h : ∀ k, f (k + 1) = some r) : Gives f r := ⟨1, fun k hk => by obtain ⟨j, rfl⟩ : ∃ j, k = j + 1 := ⟨k - 1, by omega⟩; exact h j⟩
theorem Gives.step (hg : Gives g r) (h : ∀ k, f (k + 1) = g k) : Gives f r := by
  obtain ⟨K, hK⟩ := hg
  exact ⟨K + 1, fun k hk => by obtain ⟨j, rfl⟩ : ∃ j, k = j + 1 := ⟨k - 1, by omega⟩; rw [h j]; exact hK j (by omega)⟩
theorem Gives.same (hg : Gives g r) (h : ∀ k, f k = g k) : Gives f r := by
  obtain ⟨K, hK⟩ := hg
  exact ⟨K, fun k hk => by rw [h k]; exact hK k hk⟩
theorem Gives.call (hc : Gives c t) (hg : Gives g r) (h : ∀ k, c k = some t → f (k + 1) = g k) : Gives f r := by
  obtain ⟨K, hK⟩ := hg
  obtain ⟨C, hC⟩ := hc
  exact ⟨K + C + 1, fun k hk => by obtain ⟨j, rfl⟩ : ∃ j, k = j + 1 := ⟨k - 1, by omega⟩; rw [h j (hC j (by omega))]; exact hK j (by omega)⟩
theorem Gives.last (hc : Gives c t) (h : ∀ k, c k = some t → f (k + 1) = some r) : Gives f r := by
  obtain ⟨C, hC⟩ := hc
  exact ⟨C + 1, fun k hk => by obtain ⟨j, rfl⟩ : ∃ j, k = j + 1 := ⟨k - 1, by omega⟩; exact h j (hC j (by omega))⟩
theorem Gives.eq (h : Gives f r) (e : r = r') : Gives f r' := e ▸ h
end
theorem gw {x : Int} (h : -9223372036854775808 ≤ x) (h2 : x < 9223372036854775808) : wrap64 x = x := by
  unfold wrap64
  omega
theorem gw1 {i : Nat} (h : i < 4611686018427387904) : wrap64 ((i : Int) + 1) = ((i + 1 : Nat) : Int) := by
  rw [gw (by omega) (by omega)]; omega
theorem getN {α : Type} {d : α} {L : List α} {i : Nat} (h : i < L.length) : L.getD (i : Int).toNat d = L[i] := by
  simp [h]
theorem rdOfN {α : Type} {d : α} {L : List α} {i : Nat} (h : i < L.length) : rdOf d L (i : Int) = L[i] := by
  simp [rdOf, h]
theorem btN {s : ByteArray} {i : Nat} (h : i < s.size) : bt s (i : Int) = ((s.data.toList[i]'(by simpa using h)).toNat : Int) := by
  simp [bt, h]; rfl
theorem strEq {a b : ByteArray} : a.toList = b.toList ↔ a = b := by
  constructor
  · intro h
    rw [Lib.toList_data, Lib.toList_data] at h
    exact ByteArray.ext (Array.toList_inj.1 h)
  · rintro rfl; rfl
theorem strBeq {a b : ByteArray} : (a.toList == b.toList) = decide (a = b) := by
  by_cases h : a = b
  · subst h; simp
  · rw [decide_eq_false h, beq_eq_false_iff_ne]
    exact fun e => h (strEq.1 e)
theorem sizeLen (s : ByteArray) : s.size = s.data.toList.length := by simp
theorem dropCons {α : Type} {l : List α} {i : Nat} (h : i < l.length) : l.drop i = l[i] :: l.drop (i + 1) := List.drop_eq_getElem_cons h
/-- What came in, told with all that it may lie in. -/
theorem V_of_C {α : Type} {d : Kd α} (hd : Kd.Heap d) {e base c : Nat} {w : World} {A : Option Addr} {xs : List α} (h : d.C w A xs.length xs) (hc : xs.length ≤ c) : Kd.V d e w base (fun _ => True) (.slice A xs.length c) xs :=
  Kd.V_mk hc (fun W' hW => hd.C (fun k hk => hW k trivial hk) h)
theorem u8N {x : Int} (h : (Lit.int .u8 x).wf = true) : ∃ n : Nat, x = (n : Int) ∧ n < 256 := by
  have e1 : IntKind.u8.min = 0 := rfl
  have e2 : IntKind.u8.max = 255 := rfl
  simp [Lit.wf, go_sem] at h
  exact ⟨x.toNat, by omega, by omega⟩
end Go.Proofs.YthcnfflhejogfaaDoor.X
-- part XHp1
namespace Go.Proofs.YthcnfflhejogfaaDoor.X.HkP
set_option linter.unusedVariables false
set_option linter.unusedSimpArgs false
variable {α : Type} (m : α → Bool)
/-- Row i is there, and has a mark. -/
def MarkAt (rows : List α) (i : Nat) : Prop := ∃ h : i < rows.length, m rows[i] = true
def groupEnd (rows : List α) (i : Nat) : Nat := i + ((rows.drop i).takeWhile m).length
theorem groupEnd_step {rows : List α} {i : Nat} (h : i < rows.length) (hm : m rows[i] = true) : groupEnd m rows i = groupEnd m rows (i + 1) := by
  rw [groupEnd, groupEnd, dropCons h, List.takeWhile_cons, if_pos hm, List.length_cons]; omega
theorem groupEnd_stop {rows : List α} {i : Nat} (h : ¬ MarkAt m rows i) : groupEnd m rows i = i := by
  by_cases hi : i < rows.length
  · have : m rows[i] = false := by
      cases e : m rows[i] with
      | false => rfl
      | true => exact (h ⟨hi, e⟩).elim
    rw [groupEnd, dropCons hi, List.takeWhile_cons, if_neg (by rw [this]; decide)]; rfl
  · rw [groupEnd, List.drop_of_length_le (by omega)]; rfl
/-- The group's end, from within. -/
theorem groupEnd_spec (rows : List α) (i : Nat) (h : i ≤ rows.length) : i ≤ groupEnd m rows i ∧ groupEnd m rows i ≤ rows.length ∧ (∀ j, i ≤ j → j < groupEnd m rows i → MarkAt m rows j) ∧ ¬ MarkAt m rows (groupEnd m rows i) := by
  induction hn : rows.length - i generalizing i with
  | zero =>
    have : ¬ MarkAt m rows i := fun ⟨h1, _⟩ => by omega
    rw [groupEnd_stop m this]
    exact ⟨Nat.le_refl _, h, fun j a b => by omega, this⟩
  | succ n ih =>
    by_cases hm : MarkAt m rows i
    · obtain ⟨hi, hm1⟩ := hm
      obtain ⟨a, b, c, d⟩ := ih (i + 1) (by omega) (by omega)
      rw [groupEnd_step m hi hm1]
      refine ⟨by omega, b, fun j x y => ?_, d⟩
      by_cases e : j = i
      · subst e; exact ⟨hi, hm1⟩
      · exact c j (by omega) y
    · rw [groupEnd_stop m hm]
      exact ⟨Nat.le_refl _, h, fun j a b => by omega, hm⟩
theorem groupEnd_of {rows : List α} {i t : Nat} (h : i ≤ t) (hm : ∀ j, i ≤ j → j < t → MarkAt m rows j) (ht : ¬ MarkAt m rows t) (hl : t ≤ rows.length) : groupEnd m rows i = t := by
  obtain ⟨a, b, c, d⟩ := groupEnd_spec m rows i (by omega)
  by_cases e : groupEnd m rows i < t
  · exact (d (hm _ a e)).elim
  · by_cases e2 : t < groupEnd m rows i
    · exact (ht (c _ h e2)).elim
    · omega
def groupsGo (rows : List α) : Nat → Nat → List (Nat × Nat)
  | 0, _ => []
  | r + 1, i => if h : i < rows.length then (if m rows[i] = true then (i, groupEnd m rows i) :: groupsGo rows r (groupEnd m rows i) else groupsGo rows r (i + 1)) else []
theorem notPrev {rows : List α} {i : Nat} (h : ¬ MarkAt m rows i) : ∀ j, j + 1 = i + 1 → ¬ MarkAt m rows j := fun j e => by
  obtain rfl : j = i := by omega
  exact h
/-- A run of rows with marks, as long as can be. -/
def IsGroup (rows : List α) (f t : Nat) : Prop := f < t ∧ t ≤ rows.length ∧ (∀ j, f ≤ j → j < t → MarkAt m rows j) ∧ (∀ j, j + 1 = f → ¬ MarkAt m rows j) ∧ ¬ MarkAt m rows t
theorem mem_groupsGo {rows : List α} {f t : Nat} : ∀ (r i : Nat), rows.length < r + i → (∀ j, j + 1 = i → ¬ MarkAt m rows j) → ((f, t) ∈ groupsGo m rows r i ↔ i ≤ f ∧ IsGroup m rows f t)
  | 0, i, hr, _ => by
    rw [groupsGo]
    constructor
    · intro h; cases h
    · rintro ⟨h1, h2, h3, _⟩; omega
  | r + 1, i, hr, hp => by
    rw [groupsGo]
    by_cases hi : i < rows.length
    · rw [dif_pos hi]
      by_cases hm : m rows[i] = true
      · obtain ⟨a, b, c, d⟩ := groupEnd_spec m rows i (by omega)
        have hlt : i < groupEnd m rows i := by
          rcases Nat.lt_or_ge i (groupEnd m rows i) with h | h
          · exact h
          · have : groupEnd m rows i = i := by omega
            rw [this] at d
            exact (d ⟨hi, hm⟩).elim
        have hM : MarkAt m rows i := ⟨hi, hm⟩
        rw [if_pos hm]
        by_cases hge : groupEnd m rows i < rows.length
        · obtain ⟨r, rfl⟩ : ∃ q, r = q + 1 := ⟨r - 1, by omega⟩
          have hnm : ¬ m rows[groupEnd m rows i] = true := fun e => d ⟨hge, e⟩
          have e2 : groupsGo m rows (r + 1) (groupEnd m rows i) = groupsGo m rows r (groupEnd m rows i + 1) := by
            rw [groupsGo, dif_pos hge, if_neg hnm]
          rw [e2, List.mem_cons, mem_groupsGo r _ (by omega) (notPrev m d)]
          constructor
          · rintro (h | ⟨h1, h2⟩)
            · cases h; exact ⟨Nat.le_refl _, hlt, b, c, hp, d⟩
            · exact ⟨by omega, h2⟩
          · rintro ⟨h1, h2⟩
            obtain ⟨g1, g2, g3, g4, g5⟩ := h2
            by_cases e : f = i
            · subst e
              left
              rw [groupEnd_of m (by omega) g3 g5 g2]
            · right
              refine ⟨?_, g1, g2, g3, g4, g5⟩
              rcases Nat.lt_or_ge (groupEnd m rows i) f with h | h
              · exact h
              · rcases Nat.lt_or_ge f (groupEnd m rows i) with h3 | h3
                · exact (g4 (f - 1) (by omega) (c (f - 1) (by omega) (by omega))).elim
                · have : f = groupEnd m rows i := by omega
                  subst this
                  exact (d (g3 _ (Nat.le_refl _) g1)).elim
        · have e2 : groupsGo m rows r (groupEnd m rows i) = [] := by
            cases r with
            | zero => rfl
            | succ r => rw [groupsGo, dif_neg hge]
          rw [e2, List.mem_cons]
          constructor
          · rintro (h | h)
            · cases h; exact ⟨Nat.le_refl _, hlt, b, c, hp, d⟩
            · cases h
          · rintro ⟨h1, g1, g2, g3, g4, g5⟩
            by_cases e : f = i
            · subst e
              left
              rw [groupEnd_of m (by omega) g3 g5 g2]
            · exact (g4 (f - 1) (by omega) (c (f - 1) (by omega) (by omega))).elim
      · rw [if_neg hm, mem_groupsGo r _ (by omega) (notPrev m (fun ⟨_, e⟩ => hm e))]
        constructor
        · rintro ⟨h1, h2⟩; exact ⟨by omega, h2⟩
        · rintro ⟨h1, h2⟩
          refine ⟨?_, h2⟩
          rcases Nat.lt_or_ge i f with h | h
          · omega
          · obtain rfl : f = i := by omega
            obtain ⟨_, e⟩ := h2.2.2.1 f (Nat.le_refl _) h2.1
            exact (hm e).elim
    · rw [dif_neg hi]
      constructor
      · intro h; cases h
      · rintro ⟨h1, h2, h3, _⟩; omega

/-- Is there a mark at a place? -/
def mk (rows : List α) (i : Nat) : Bool := if h : i < rows.length then m rows[i] else false
theorem mk_iff {rows : List α} {i : Nat} : mk m rows i = true ↔ MarkAt m rows i := by
  unfold mk
  split
  · rename_i h; exact ⟨fun e => ⟨h, e⟩, fun ⟨_, e⟩ => e⟩
  · rename_i h; exact ⟨fun e => (by cases e), fun ⟨h2, _⟩ => (h h2).elim⟩
theorem mk_at {rows : List α} {i : Nat} (h : i < rows.length) : mk m rows i = m rows[i] := dif_pos h
theorem mk_no {rows : List α} {i : Nat} : mk m rows i = false ↔ ¬ MarkAt m rows i := by
  rw [← mk_iff m]; cases mk m rows i <;> simp
/-- Where the marks that end ahead of i begin. -/
def groupBegin (rows : List α) : Nat → Nat
  | 0 => 0
  | i + 1 => if mk m rows i = true then groupBegin rows i else i + 1
theorem groupBegin_spec (rows : List α) : ∀ i, groupBegin m rows i ≤ i ∧ (∀ j, groupBegin m rows i ≤ j → j < i → MarkAt m rows j) ∧ (∀ j, j + 1 = groupBegin m rows i → ¬ MarkAt m rows j)
  | 0 => ⟨Nat.le_refl _, fun j _ h => by omega, fun j h => by rw [groupBegin] at h; omega⟩
  | i + 1 => by
    obtain ⟨a, b, c⟩ := groupBegin_spec rows i
    rw [groupBegin]
    split
    · rename_i h
      refine ⟨by omega, fun j h1 h2 => ?_, c⟩
      by_cases e : j = i
      · subst e; exact (mk_iff m).1 h
      · exact b j h1 (by omega)
    · rename_i h
      refine ⟨Nat.le_refl _, fun j h1 h2 => by omega, fun j e => ?_⟩
      obtain rfl : j = i := by omega
      exact fun h2 => h ((mk_iff m).2 h2)
/-- Behind the last mark ahead of i (0: there is none). -/
def lastM (rows : List α) : Nat → Nat
  | 0 => 0
  | i + 1 => if mk m rows i = true then i + 1 else lastM rows i
theorem lastM_spec (rows : List α) : ∀ i, lastM m rows i ≤ i ∧ (∀ j, j + 1 = lastM m rows i → MarkAt m rows j) ∧ (∀ j, lastM m rows i ≤ j → j < i → ¬ MarkAt m rows j)
  | 0 => ⟨Nat.le_refl _, fun j h => by rw [lastM] at h; omega, fun j _ h => by omega⟩
  | i + 1 => by
    obtain ⟨a, b, c⟩ := lastM_spec rows i
    rw [lastM]
    split
    · rename_i h
      refine ⟨Nat.le_refl _, fun j e => ?_, fun j h1 h2 => by omega⟩
      obtain rfl : j = i := by omega
      exact (mk_iff m).1 h
    · rename_i h
      refine ⟨by omega, b, fun j h1 h2 => ?_⟩
      by_cases e : j = i
      · subst e; exact fun h3 => h ((mk_iff m).2 h3)
      · exact c j h1 (by omega)
/-- The next mark from i on (or the rows' length). -/
def nextM (rows : List α) (i : Nat) : Nat := groupEnd (fun x => !m x) rows i
theorem nextM_spec (rows : List α) (i : Nat) (h : i ≤ rows.length) : i ≤ nextM m rows i ∧ nextM m rows i ≤ rows.length ∧ (∀ j, i ≤ j → j < nextM m rows i → ¬ MarkAt m rows j) ∧ (nextM m rows i < rows.length → MarkAt m rows (nextM m rows i)) := by
  obtain ⟨a, b, c, d⟩ := groupEnd_spec (fun x => !m x) rows i h
  refine ⟨a, b, fun j h1 h2 ⟨_, e⟩ => ?_, fun hlt => ⟨hlt, ?_⟩⟩
  · obtain ⟨_, e2⟩ := c j h1 h2
    simp only [e] at e2
    cases e2
  · cases e : m rows[nextM m rows i] with
    | true => rfl
    | false => exact (d ⟨hlt, by simp only [Bool.not_eq_true']; exact e⟩).elim
theorem IsGroup.uniq {rows : List α} {f t f' t' i : Nat} (h : IsGroup m rows f t) (h' : IsGroup m rows f' t') (a : f ≤ i) (b : i < t) (a' : f' ≤ i) (b' : i < t') : f = f' ∧ t = t' := by
  obtain ⟨h1, h2, h3, h4, h5⟩ := h
  obtain ⟨k1, k2, k3, k4, k5⟩ := h'
  constructor
  · rcases Nat.lt_trichotomy f f' with e | e | e
    · exact (k4 (f' - 1) (by omega) (h3 _ (by omega) (by omega))).elim
    · exact e
    · exact (h4 (f - 1) (by omega) (k3 _ (by omega) (by omega))).elim
  · rcases Nat.lt_trichotomy t t' with e | e | e
    · exact (h5 (k3 t (by omega) e)).elim
    · exact e
    · exact (k5 (h3 t' (by omega) e)).elim
/-- The group that a marked row is in. -/
theorem isGroup_at {rows : List α} {i : Nat} (h : MarkAt m rows i) : IsGroup m rows (groupBegin m rows i) (groupEnd m rows i) ∧ groupBegin m rows i ≤ i ∧ i < groupEnd m rows i := by
  obtain ⟨hi, hm⟩ := h
  obtain ⟨a, b, c⟩ := groupBegin_spec m rows i
  obtain ⟨d, e, f, g⟩ := groupEnd_spec m rows i (by omega)
  have hlt : i < groupEnd m rows i := by
    rcases Nat.lt_or_ge i (groupEnd m rows i) with h | h
    · exact h
    · have : groupEnd m rows i = i := by omega
      rw [this] at g
      exact (g ⟨hi, hm⟩).elim
  refine ⟨⟨by omega, e, fun j h1 h2 => ?_, c, g⟩, a, hlt⟩
  rcases Nat.lt_or_ge j i with h | h
  · exact b j h1 h
  · exact f j h h2
variable (keep : Nat → Nat → Bool)
/-- Does a group show a row? -/
def Inside (rows : List α) (x : Nat) (f t i : Nat) : Prop := (f ≤ i ∧ i < t) ∨ (i < f ∧ f ≤ i + x ∧ ∀ j, i ≤ j → j < f → ¬ MarkAt m rows j) ∨ (t ≤ i ∧ i < rows.length ∧ i < t + x ∧ ∀ j, t ≤ j → j ≤ i → ¬ MarkAt m rows j)
def keptR (rows : List α) (i : Nat) : Bool := mk m rows i && keep (groupBegin m rows i) (groupEnd m rows i)
/-- The document's answer: is a row shown? -/
def shownR (rows : List α) (x : Nat) (i : Nat) : Bool :=
  if mk m rows i = true then keptR m keep rows i
  else (decide (0 < lastM m rows i) && (decide (i + 1 ≤ lastM m rows i + x) && keptR m keep rows (lastM m rows i - 1))) || (decide (nextM m rows (i + 1) < rows.length) && (decide (nextM m rows (i + 1) ≤ i + x) && keptR m keep rows (nextM m rows (i + 1))))
theorem keptR_iff {rows : List α} {i : Nat} : keptR m keep rows i = true ↔ ∃ f t, IsGroup m rows f t ∧ f ≤ i ∧ i < t ∧ keep f t = true := by
  rw [keptR, Bool.and_eq_true, mk_iff]
  constructor
  · rintro ⟨h1, h2⟩
    obtain ⟨a, b, c⟩ := isGroup_at m h1
    exact ⟨_, _, a, b, c, h2⟩
  · rintro ⟨f, t, h, a, b, k⟩
    have hm := h.2.2.1 i a b
    obtain ⟨a', b', c'⟩ := isGroup_at m hm
    obtain ⟨e1, e2⟩ := IsGroup.uniq m h a' a b b' c'
    exact ⟨hm, by rw [← e1, ← e2]; exact k⟩
/-- A row is shown, just if a group that is kept shows it. -/
theorem shownR_iff {rows : List α} {x i : Nat} (hi : i < rows.length) : shownR m keep rows x i = true ↔ ∃ f t, IsGroup m rows f t ∧ keep f t = true ∧ Inside m rows x f t i := by
  rw [shownR]
  split
  · rename_i hm
    rw [mk_iff] at hm
    rw [keptR_iff]
    constructor
    · rintro ⟨f, t, h, a, b, k⟩; exact ⟨f, t, h, k, .inl ⟨a, b⟩⟩
    · rintro ⟨f, t, h, k, ⟨a, b⟩ | ⟨a, _, b⟩ | ⟨a, _, _, b⟩⟩
      · exact ⟨f, t, h, a, b, k⟩
      · exact (b i (Nat.le_refl _) a hm).elim
      · exact (b i a (Nat.le_refl _) hm).elim
  · rename_i hm
    rw [mk_iff] at hm
    obtain ⟨l1, l2, l3⟩ := lastM_spec m rows i
    obtain ⟨n1, n2, n3, n4⟩ := nextM_spec m rows (i + 1) hi
    have n3' : ∀ j, i ≤ j → j < nextM m rows (i + 1) → ¬ MarkAt m rows j := fun j h1 h2 => by
      by_cases e : j = i
      · subst e; exact hm
      · exact n3 j (by omega) h2
    rw [Bool.or_eq_true, Bool.and_eq_true, Bool.and_eq_true, Bool.and_eq_true, Bool.and_eq_true, decide_eq_true_eq, decide_eq_true_eq, decide_eq_true_eq, decide_eq_true_eq, keptR_iff, keptR_iff]
    constructor
    · rintro (⟨h0, h1, f, t, h, a, b, k⟩ | ⟨h0, h1, f, t, h, a, b, k⟩)
      · have ht : t = lastM m rows i := by
          rcases Nat.lt_or_ge (lastM m rows i) t with e | e
          · by_cases e2 : lastM m rows i = i
            · exact (hm (h.2.2.1 i (by omega) (by omega))).elim
            · exact (l3 _ (Nat.le_refl _) (by omega) (h.2.2.1 _ (by omega) e)).elim
          · omega
        refine ⟨f, t, h, k, .inr (.inr ⟨by omega, hi, by omega, fun j h2 h3 => ?_⟩)⟩
        by_cases e : j = i
        · subst e; exact hm
        · exact l3 j (by omega) (by omega)
      · have hf : f = nextM m rows (i + 1) := by
          rcases Nat.lt_or_ge f (nextM m rows (i + 1)) with e | e
          · exact (n3' (nextM m rows (i + 1) - 1) (by omega) (by omega) (h.2.2.1 _ (by omega) (by omega))).elim
          · omega
        exact ⟨f, t, h, k, .inr (.inl ⟨by omega, by omega, fun j h2 h3 => n3' j h2 (by omega)⟩)⟩
    · rintro ⟨f, t, h, k, ⟨a, b⟩ | ⟨a, b, c⟩ | ⟨a, _, b, c⟩⟩
      · exact (hm (h.2.2.1 i a b)).elim
      · right
        have hf : nextM m rows (i + 1) = f := by
          have hmf := h.2.2.1 f (Nat.le_refl _) h.1
          rcases Nat.lt_trichotomy (nextM m rows (i + 1)) f with e | e | e
          · exact (c _ (by omega) e (n4 (by have := h.1; have := h.2.1; omega))).elim
          · exact e
          · exact (n3 f (by omega) e hmf).elim
        rw [hf]
        exact ⟨by have := h.1; have := h.2.1; omega, by omega, f, t, h, Nat.le_refl _, h.1, k⟩
      · left
        have ht : lastM m rows i = t := by
          have hmt := h.2.2.1 (t - 1) (by have := h.1; omega) (by have := h.1; omega)
          have h1 := h.1
          rcases Nat.lt_trichotomy (lastM m rows i) t with e | e | e
          · exact (l3 (t - 1) (by omega) (by omega) hmt).elim
          · exact e
          · exact (c (lastM m rows i - 1) (by omega) (by omega) (l2 _ (by omega))).elim
        rw [ht]
        have h1 := h.1
        exact ⟨by omega, by omega, f, t, h, by omega, by omega, k⟩
end Go.Proofs.YthcnfflhejogfaaDoor.X.HkP
-- part XHr1
namespace Go.Proofs.YthcnfflhejogfaaDoor.X
open Go.RowKit Go.Proofs.YthcnfflhejogfaaDoorW.PrintWords Go.Proofs.YthcnfflhejogfaaDoorW.PrintLast Go.Proofs.YthcnfflhejogfaaDoorW.PrintMore
set_option linter.unusedVariables false
set_option linter.unusedSimpArgs false
abbrev RowH := S57
/-- Has a row a mark? -/
def mrkB (x : RowH) : Bool := x.f0.data.toList.any (· != 32)
/-- No row is too long. -/
def Low (rows : List RowH) : Prop := ∀ x ∈ rows, x.f0.size ≤ 1000000
theorem btIs {s : ByteArray} {i : Nat} (h : i < s.size) (c : UInt8) : bt s (i : Int) = (c.toNat : Int) ↔ s.data.toList[i]'(by simpa using h) = c := by
  rw [btN h]
  constructor
  · intro e; exact UInt8.toNat_inj.1 (by omega)
  · rintro e; rw [e]
theorem btIs32 {s : ByteArray} {i : Nat} (h : i < s.size) : bt s (i : Int) = 32 ↔ s.data.toList[i]'(by simpa using h) = 32 := btIs h 32
theorem rdH {rows : List RowH} {i : Nat} (h : i < rows.length) : rd_T57 rows (i : Int) = rows[i] := getN h
def spanN (p : Nat × Nat) : S45 := ⟨(p.1 : Int), (p.2 : Int)⟩
end Go.Proofs.YthcnfflhejogfaaDoor.X
-- part XHp2
namespace Go.Proofs.YthcnfflhejogfaaDoor.X.HkP
set_option linter.unusedVariables false
set_option linter.unusedSimpArgs false
section
variable {α β : Type} (rows : List α) (m : β → Bool) (l : List β)
end
section
variable {β : Type} (m : β → Bool) (l : List β)
theorem groupsGo_fuel' : ∀ (r r' i : Nat), l.length < r + i → l.length < r' + i → groupsGo m l r i = groupsGo m l r' i := by
  intro r
  induction r with
  | zero =>
    intro r' i h h'
    cases r' with
    | zero => rfl
    | succ r' => rw [groupsGo, groupsGo, dif_neg (by omega)]
  | succ r ih =>
    intro r' i h h'
    cases r' with
    | zero => rw [groupsGo, groupsGo, dif_neg (by omega)]
    | succ r' =>
      rw [groupsGo, groupsGo]
      split
      · rename_i hi
        split
        · rename_i hm
          have h1 := groupEnd_spec m l (i + 1) (by omega)
          rw [groupEnd_step _ hi hm]
          rw [ih r' _ (by omega) (by omega)]
        · exact ih r' _ (by omega) (by omega)
      · rfl
/-- Runs, one behind the other: nothing is marked between them. -/
def Chain : Nat → List (Nat × Nat) → Prop
  | s, [] => ∀ j, s ≤ j → ¬ MarkAt m l j
  | s, p :: L => s ≤ p.1 ∧ (∀ j, s ≤ j → j < p.1 → ¬ MarkAt m l j) ∧ IsGroup m l p.1 p.2 ∧ Chain p.2 L
theorem Chain.lower {i : Nat} (h : ¬ MarkAt m l i) : ∀ {L : List (Nat × Nat)}, Chain m l (i + 1) L → Chain m l i L
  | [], hc => fun j hj => by
    by_cases e : j = i
    · subst e; exact h
    · exact hc j (by omega)
  | p :: L, hc => by
    obtain ⟨a, b, c, d⟩ := hc
    refine ⟨by omega, fun j hj hk => ?_, c, d⟩
    by_cases e : j = i
    · subst e; exact h
    · exact b j (by omega) hk
theorem groupsGo_chain : ∀ (r i : Nat), l.length < r + i → (∀ j, j + 1 = i → ¬ MarkAt m l j) → Chain m l i (groupsGo m l r i) := by
  intro r
  induction r with
  | zero =>
    intro i h _
    rw [groupsGo]
    intro j hj ⟨h1, _⟩
    omega
  | succ r ih =>
    intro i h hp
    rw [groupsGo]
    by_cases hi : i < l.length
    · rw [dif_pos hi]
      by_cases hm : m l[i] = true
      · rw [if_pos hm]
        obtain ⟨a, b, c, d⟩ := groupEnd_spec m l (i + 1) (by omega)
        rw [← groupEnd_step m hi hm] at a b c d
        have hg : IsGroup m l i (groupEnd m l i) := ⟨by omega, b, fun j h1 h2 => by
          by_cases e : j = i
          · subst e; exact ⟨hi, hm⟩
          · exact c j (by omega) h2, hp, d⟩
        refine ⟨Nat.le_refl _, fun j h1 h2 => by omega, hg, ?_⟩
        by_cases hge : groupEnd m l i < l.length
        · obtain ⟨r, rfl⟩ : ∃ q, r = q + 1 := ⟨r - 1, by omega⟩
          have hnm : ¬ m l[groupEnd m l i] = true := fun e => d ⟨hge, e⟩
          have e2 : groupsGo m l (r + 1) (groupEnd m l i) = groupsGo m l r (groupEnd m l i + 1) := by
            rw [groupsGo, dif_pos hge, if_neg hnm]
          have h3 := ih (groupEnd m l i + 1) (by omega) (notPrev m d)
          have e3 : groupsGo m l (r + 1) (groupEnd m l i + 1) = groupsGo m l r (groupEnd m l i + 1) := groupsGo_fuel' m l _ _ _ (by omega) (by omega)
          rw [e2]
          rw [e3] at h3
          exact h3.lower m l d
        · have e2 : groupsGo m l r (groupEnd m l i) = [] := by
            cases r with
            | zero => rfl
            | succ r => rw [groupsGo, dif_neg hge]
          rw [e2]
          intro j hj ⟨h1, _⟩
          omega
      · rw [if_neg hm]
        exact (ih (i + 1) (by omega) (notPrev m (fun ⟨_, e⟩ => hm e))).lower m l (fun ⟨_, e⟩ => hm e)
    · rw [dif_neg hi]
      intro j hj ⟨h1, _⟩
      omega
end
end Go.Proofs.YthcnfflhejogfaaDoor.X.HkP
-- part XOpen
namespace Go.Proofs.YthcnfflhejogfaaDoor.X
open Go.RowKit Go.Proofs.YthcnfflhejogfaaDoorW.PrintWords Go.Deep
set_option linter.unusedVariables false
/-- No part of it is larger than memory. -/
def Light {H : Type} (P : Program) (t : TypeId) (d : DataW H) : Prop := ∀ n ∈ d.weights P t, n ≤ 140737488351232
/-- Whatever reads as data of type t, and is light, has cells of the kind d, and is good. -/
def Opens {α : Type} (P : Program) (t : TypeId) (d : Kd α) (good : α → Prop) : Prop :=
  ∀ {H : Type} (enc : TypeId × Value → H) (w : World) (fuel : Nat) (cs : List Value) (x : DataW H × List MemPlace),
    DataW.trod enc P w 0 (fun _ => true) true fuel t cs = some x → Light P t x.1 → ∃ y, d.K w y cs ∧ good y

theorem opens_string {P : Program} {t : TypeId} (ht : P.underlying t = some .string) : Opens P t Kd.string (fun s => s.size ≤ 140737488351232) := by
  intro H enc w fuel cs x h hl
  obtain ⟨s, rfl, rfl, hs⟩ := DataW.trod_string ht h
  refine ⟨s, rfl, ?_⟩
  have := hl s.data.toList.length (by simp [DataW.weights])
  simpa using this
theorem mem_weightsAll {H : Type} {P : Program} {e : TypeId} {n : Nat} : ∀ {l : List (DataW H)} {d : DataW H}, d ∈ l → n ∈ d.weights P e → n ∈ DataW.weightsAll P e l
  | d0 :: l, d, h, hn => by
    simp only [DataW.weightsAll, List.mem_append]
    rcases List.mem_cons.1 h with rfl | h
    · exact .inl hn
    · exact .inr (mem_weightsAll h hn)

theorem pick_list {α : Type} {Q : Nat → α → Prop} : ∀ n : Nat, (∀ i, i < n → ∃ y, Q i y) → ∃ ys : List α, ys.length = n ∧ ∀ (i : Nat) (y : α), ys[i]? = some y → Q i y
  | 0, _ => ⟨[], rfl, fun i y h => by simp at h⟩
  | n + 1, h => by
    obtain ⟨ys, hl, hq⟩ := pick_list n (fun i hi => h i (by omega))
    obtain ⟨y, hy⟩ := h n (by omega)
    refine ⟨ys ++ [y], by simp [hl], fun i z hz => ?_⟩
    rcases Nat.lt_or_ge i ys.length with hi | hi
    · rw [List.getElem?_append_left hi] at hz
      exact hq i z hz
    · have hi' : i = n := by
        have := (List.getElem?_eq_some_iff.1 hz).1
        simp at this
        omega
      subst hi'
      rw [List.getElem?_append_right hi, hl] at hz
      simp at hz
      exact hz ▸ hy

theorem opens_slice {α : Type} {P : Program} {t e : TypeId} {d : Kd α} {good : α → Prop} (ht : P.underlying t = some (.slice e)) (hc : P.cellsOf e = d.sz) {B : Nat} (hB : P.bytesOf e = B) (hd : Opens P e d good) :
    Opens P t (Kd.slice e d) (fun l => l.length * B ≤ 140737488351232 ∧ ∀ y ∈ l, good y) := by
  intro H enc w fuel cs x h hw
  rcases open_slice ht h with ⟨rfl, _⟩ | ⟨a, len, cap, m, n, D, Pl, rfl, _, hl, hm, hmm, rfl, hx⟩
  · exact ⟨[], ⟨none, 0, rfl, Nat.le_refl _, rfl, by simp, fun h => absurd h (by simp)⟩, by simp, by simp⟩
  · have hle : len ≤ m := by
      rw [hmm]
      simp
      exact hl
    have hD : ∀ i, i < len → Light P e (D i) := fun i hi n hn => hw n (by
      simp only [DataW.weights, ht]
      exact List.mem_cons_of_mem _ (List.mem_append_left _ (mem_weightsAll (List.mem_map.2 ⟨i, List.mem_range.2 hi, rfl⟩) hn)))
    have hS : len * B ≤ 140737488351232 := by
      have z := hw _ (by simp only [DataW.weights, ht]; exact List.mem_cons_self)
      rw [hB] at z
      simp only [List.length_map, List.length_range] at z
      exact Nat.le_trans (Nat.mul_le_mul_right _ (Nat.le_add_right _ _)) z
    obtain ⟨ys, hyl, hyq⟩ := pick_list (Q := fun i y => ∃ c, w.cells? 0 (a.add (i * d.sz)) d.sz = some c ∧ d.K w y c ∧ good y) len (fun i hi => by
      obtain ⟨c, h1, h2⟩ := hx i (by omega)
      obtain ⟨y, h3, h4⟩ := hd enc w n c _ h2 (hD i hi)
      rw [hc] at h1
      exact ⟨y, c, h1, h3, h4⟩)
    refine ⟨ys, ⟨some a, cap, by rw [hyl], by omega, rfl, ?_, fun _ => ⟨a, rfl, fun j p hp => ?_⟩⟩, ?_, fun y hy => ?_⟩
    · unfold maxLen at hm; omega
    · obtain ⟨c, h1, h3, _⟩ := hyq j p hp
      obtain ⟨_, hlen, hcell⟩ := World.cells?_some h1
      refine ⟨c, hlen, h3, fun i u hu => ?_⟩
      have hi : i < d.sz := by rw [← hlen]; exact (List.getElem?_eq_some_iff.1 hu).1
      rw [← Go.Deep.add_add, hcell i hi, hu]
    · rw [hyl]; exact hS
    · obtain ⟨j, hj, rfl⟩ := List.mem_iff_getElem.1 hy
      obtain ⟨_, _, _, hg⟩ := hyq j _ (List.getElem?_eq_getElem hj)
      exact hg

theorem opens_iso {α β : Type} {P : Program} {t : TypeId} {d : Kd α} {good : α → Prop} (f : β → α) (hf : ∀ y, ∃ x, f x = y) (hd : Opens P t d good) : Opens P t (Kd.iso d f) (fun x => good (f x)) := by
  intro H enc w fuel cs x h hw
  obtain ⟨y, h1, h2⟩ := hd enc w fuel cs x h hw
  obtain ⟨z, rfl⟩ := hf y
  exact ⟨z, h1, h2⟩

theorem pair_K {α β : Type} {a : Kd α} {b : Kd β} {w : World} {x : α} {y : β} {cs : List Value} (h0 : a.K w x (cs.take a.sz)) (h1 : b.K w y (cs.drop a.sz)) : (Kd.pair a b).K w (x, y) cs :=
  ⟨_, _, (List.take_append_drop _ _).symm, h0, h1⟩

/-- Fields, one behind the other, from a cell on. -/
def OpensF {α : Type} (P : Program) (fs : List Field) (off : Nat) (d : Kd α) (good : α → Prop) : Prop :=
  ∀ {H : Type} (enc : TypeId × Value → H) (w : World) (n : Nat) (cs : List Value) (xs : List (DataW H × List MemPlace)),
    (∀ (i : Nat) (f : Field), fs[i]? = some f → DataW.trod enc P w 0 (fun _ => true) true n f.type ((cs.drop f.offset).take (P.cellsOf f.type)) = xs[i]?) → xs.length = fs.length → cs.length = off + d.sz →
    (∀ m ∈ DataW.weightsEach P (fs.map (·.type)) (xs.map (·.1)), m ≤ 140737488351232) → ∃ y, d.K w y (cs.drop off) ∧ good y
theorem opensF_one {α : Type} {P : Program} {f : Field} {off : Nat} {d : Kd α} {good : α → Prop} (ho : f.offset = off) (hs : P.cellsOf f.type = d.sz) (h : Opens P f.type d good) : OpensF P [f] off d good := by
  intro H enc w n cs xs hx hl hc hw
  match xs, hl with
  | [x], _ =>
    have h0 := hx 0 f rfl
    rw [ho, hs, List.take_of_length_le (by rw [List.length_drop]; omega)] at h0
    exact h enc w n _ _ h0 (fun m hm => hw m (by simp [DataW.weightsEach, hm]))
theorem opensF_cons {α β : Type} {P : Program} {f : Field} {fs : List Field} {off : Nat} {a : Kd α} {b : Kd β} {ga : α → Prop} {gb : β → Prop} (ho : f.offset = off) (hs : P.cellsOf f.type = a.sz) (h : Opens P f.type a ga) (hr : OpensF P fs (off + a.sz) b gb) :
    OpensF P (f :: fs) off (Kd.pair a b) (fun x => ga x.1 ∧ gb x.2) := by
  intro H enc w n cs xs hx hl hc hw
  match xs, hl with
  | x :: xs, hl =>
    have h0 := hx 0 f rfl
    rw [ho, hs] at h0
    obtain ⟨y0, k0, g0⟩ := h enc w n _ _ h0 (fun m hm => hw m (by simp [DataW.weightsEach, hm]))
    obtain ⟨y1, k1, g1⟩ := hr enc w n cs xs (fun i f hf => hx (i + 1) f hf) (by simpa using hl) (by rw [hc]; show off + (a.sz + b.sz) = _; omega) (fun m hm => hw m (by simp only [List.map_cons, DataW.weightsEach, List.mem_append]; exact .inr hm))
    exact ⟨(y0, y1), pair_K k0 (by rw [List.drop_drop]; exact k1), g0, g1⟩
theorem opens_struct {α : Type} {P : Program} {t : TypeId} {fs : Array Field} {d : Kd α} {good : α → Prop} (ht : P.underlying t = some (.struct fs)) (hl : P.cellsOf t = d.sz) (h : OpensF P fs.toList 0 d good) : Opens P t d good := by
  intro H enc w fuel cs x hx hw
  obtain ⟨xs, n, _, rfl, hcl, hxl, hx⟩ := DataW.trod_struct ht hx
  exact h enc w n cs xs (fun i f hf => hx i f (by simpa using hf)) (by simpa using hxl) (by omega) (fun m hm => hw m (by simpa [DataW.weights, ht] using hm))

/-- An argument that is a slice: its value, what it reads as. -/
theorem Opens.slice_arg {α : Type} {P : Program} {t e : TypeId} {d : Kd α} {g : List α → Prop} (h : Opens P t (Kd.slice e d) g) {H : Type} {enc : TypeId × Value → H} {w : World} {v : Value} {x : DataW H} {ps : List MemPlace}
    (hv : ∃ a len cap, v = .slice a len cap) (hw : Light P t x) (ht : DataW.Trod enc P w 0 (fun _ => true) true t v x ps) :
    ∃ A c l, v = .slice A l.length c ∧ Kd.C d w A l.length l ∧ l.length ≤ c ∧ g l := by
  obtain ⟨fuel, hf⟩ := ht
  obtain ⟨l, ⟨A, c, hcs, hlc, hC⟩, hg⟩ := h enc w fuel _ _ hf hw
  obtain ⟨a, len, cap, rfl⟩ := hv
  simp [Value.cells] at hcs
  obtain ⟨rfl, rfl, rfl⟩ := hcs
  exact ⟨_, _, l, rfl, hC, hlc, hg⟩
/-- A row's datum is light. -/
theorem light_of {H : Type} {P : Program} {ts : List TypeId} {ds : List (DataW H)} (hsz : (DataW.weightsEach P ts ds).all (· ≤ reachBytes) = true) {j : Nat} {t : TypeId} {d : DataW H} (ht : ts[j]? = some t) (hd : ds[j]? = some d) : Light P t d := by
  intro n hn
  have := List.all_eq_true.1 hsz _ (DataW.weights_mem_each ht hd n hn)
  exact of_decide_eq_true this
end Go.Proofs.YthcnfflhejogfaaDoor.X
-- part XRange
namespace Go.Proofs.YthcnfflhejogfaaDoor.X
open Go.RowKit
set_option linter.unusedVariables false
/-- The iterator's side: whatever the rounds keep (B: of what is no cells), it goes from s0 to a state that is S. -/
def IterGoes {σ α : Type} (F : Fence) (n : Nat) (P : Program) (gf : Nat) (lb : Array Value) (encs : α → Array Value) (I : σ → World → Prop) (ok : σ → α → Prop) (step : σ → α → σ) (S : σ → Prop) (s0 : σ) : Prop :=
  ∀ (l : Nat) (B : World → Prop), (∀ W W', B W → KeepsOthers W W' → B W') →
    (∀ s x W, I s W → B W → ok s x → YieldAt F (n - 1) P l (encs x) W fun e W' => e = .returned (.bool true) ∧ I (step s x) W' ∧ B W') →
    ∀ W, I s0 W → B W → CallsIn F n P gf (#[.func (.yield l) #[] #[]] ++ lb) W fun e W' => (∃ v, e = .returned v) ∧ ∃ s, S s ∧ I s W' ∧ B W'

end Go.Proofs.YthcnfflhejogfaaDoor.X
-- part XShelf
namespace Go.Proofs
open Go.Shelf
def Tryd.lays160_ren : Go.Shelf.Ren := ⟨fun | 160 => 64 | 232 => 89 | 231 => 88 | 227 => 90 | 234 => 92 | 233 => 91 | 236 => 94 | 235 => 93 | 228 => 108 | 271 => 111 | 151 => 110 | 197 => 109 | 120 => 129 | 152 => 128 | 260 => 127 | 137 => 139 | 119 => 140 | 224 => 125 | 225 => 124 | 217 => 123 | 266 => 137 | n => n, fun | 9 => 9 | 4 => 4 | 3 => 3 | 5 => 5 | 117 => 118 | 116 => 117 | 0 => 0 | 124 => 121 | 21 => 21 | 105 => 128 | 46 => 150 | 119 => 158 | 139 => 161 | 138 => 160 | n => n, fun | 3 => 1 | 4 => 2 | n => n⟩
theorem Tryd.lays160 : Go.Proofs.Lays.n160 Tryd.prog Tryd.lays160_ren := {
  mixed := by kernel_rfl
  f119 := Tryd.func140.trans (congrArg some (by kernel_rfl))
  f120 := Tryd.func129.trans (congrArg some (by kernel_rfl))
  f137 := Tryd.func139.trans (congrArg some (by kernel_rfl))
  f151 := Tryd.func110.trans (congrArg some (by kernel_rfl))
  f152 := Tryd.func128.trans (congrArg some (by kernel_rfl))
  f160 := Tryd.func64.trans (congrArg some (by kernel_rfl))
  f197 := Tryd.func109.trans (congrArg some (by kernel_rfl))
  f217 := Tryd.func123.trans (congrArg some (by kernel_rfl))
  f224 := Tryd.func125.trans (congrArg some (by kernel_rfl))
  f225 := Tryd.func124.trans (congrArg some (by kernel_rfl))
  f227 := Tryd.func90.trans (congrArg some (by kernel_rfl))
  f228 := Tryd.func108.trans (congrArg some (by kernel_rfl))
  f231 := Tryd.func88.trans (congrArg some (by kernel_rfl))
  f232 := Tryd.func89.trans (congrArg some (by kernel_rfl))
  f233 := Tryd.func91.trans (congrArg some (by kernel_rfl))
  f234 := Tryd.func92.trans (congrArg some (by kernel_rfl))
  f235 := Tryd.func93.trans (congrArg some (by kernel_rfl))
  f236 := Tryd.func94.trans (congrArg some (by kernel_rfl))
  f260 := Tryd.func127.trans (congrArg some (by kernel_rfl))
  f266 := Tryd.func137.trans (congrArg some (by kernel_rfl))
  f271 := Tryd.func111.trans (congrArg some (by kernel_rfl))
  t0 := Tryd.underlying0
  a0 := Tryd.isAgg0
  z0 := Tryd.sizeOf0
  v0 := Tryd.zeroValue0
  t3 := Tryd.underlying3
  a3 := Tryd.isAgg3
  z3 := Tryd.sizeOf3
  v3 := Tryd.zeroValue3
  t4 := Tryd.underlying4
  a4 := Tryd.isAgg4
  z4 := Tryd.sizeOf4
  v4 := Tryd.zeroValue4
  t5 := Tryd.underlying5
  a5 := Tryd.isAgg5
  z5 := Tryd.sizeOf5
  v5 := Tryd.zeroValue5
  t9 := Tryd.underlying9
  a9 := Tryd.isAgg9
  z9 := Tryd.sizeOf9
  v9 := Tryd.zeroValue9
  t21 := Tryd.underlying21
  a21 := Tryd.isAgg21
  z21 := Tryd.sizeOf21
  v21 := Tryd.zeroValue21
  t46 := Tryd.underlying150
  a46 := Tryd.isAgg150
  z46 := Tryd.sizeOf150
  v46 := Tryd.zeroValue150
  t105 := Tryd.underlying128
  a105 := Tryd.isAgg128
  z105 := Tryd.sizeOf128
  v105 := Tryd.zeroValue128
  t116 := Tryd.underlying117
  a116 := Tryd.isAgg117
  z116 := Tryd.sizeOf117
  t117 := Tryd.underlying118
  a117 := Tryd.isAgg118
  z117 := Tryd.sizeOf118
  v117 := Tryd.zeroValue118
  t119 := Tryd.underlying158
  a119 := Tryd.isAgg158
  z119 := Tryd.sizeOf158
  t124 := Tryd.underlying121
  a124 := Tryd.isAgg121
  z124 := Tryd.sizeOf121
  v124 := Tryd.zeroValue121
  t138 := Tryd.underlying160
  a138 := Tryd.isAgg160
  z138 := Tryd.sizeOf160
  v138 := Tryd.zeroValue160
  t139 := Tryd.underlying161
  a139 := Tryd.isAgg161
  z139 := Tryd.sizeOf161
  v139 := Tryd.zeroValue161
  g3 := by kernel_rfl
  g4 := by kernel_rfl }
def Tryd.lays143_ren : Go.Shelf.Ren := ⟨fun | 143 => 86 | 219 => 107 | 217 => 123 | 225 => 124 | 224 => 125 | 267 => 126 | 266 => 137 | 314 => 138 | n => n, fun | 9 => 9 | 3 => 3 | 4 => 4 | 5 => 5 | 46 => 150 | 146 => 156 | 51 => 155 | n => n, fun | 1 => 0 | n => n⟩
theorem Tryd.lays143 : Go.Proofs.Lays.n143 Tryd.prog Tryd.lays143_ren := {
  mixed := by kernel_rfl
  f143 := Tryd.func86.trans (congrArg some (by kernel_rfl))
  f217 := Tryd.func123.trans (congrArg some (by kernel_rfl))
  f219 := Tryd.func107.trans (congrArg some (by kernel_rfl))
  f224 := Tryd.func125.trans (congrArg some (by kernel_rfl))
  f225 := Tryd.func124.trans (congrArg some (by kernel_rfl))
  f266 := Tryd.func137.trans (congrArg some (by kernel_rfl))
  f267 := Tryd.func126.trans (congrArg some (by kernel_rfl))
  f314 := Tryd.func138.trans (congrArg some (by kernel_rfl))
  t3 := Tryd.underlying3
  a3 := Tryd.isAgg3
  z3 := Tryd.sizeOf3
  v3 := Tryd.zeroValue3
  t4 := Tryd.underlying4
  a4 := Tryd.isAgg4
  z4 := Tryd.sizeOf4
  v4 := Tryd.zeroValue4
  t5 := Tryd.underlying5
  a5 := Tryd.isAgg5
  z5 := Tryd.sizeOf5
  v5 := Tryd.zeroValue5
  t9 := Tryd.underlying9
  a9 := Tryd.isAgg9
  z9 := Tryd.sizeOf9
  v9 := Tryd.zeroValue9
  t46 := Tryd.underlying150
  a46 := Tryd.isAgg150
  z46 := Tryd.sizeOf150
  v46 := Tryd.zeroValue150
  t51 := Tryd.underlying155
  a51 := Tryd.isAgg155
  z51 := Tryd.sizeOf155
  v51 := Tryd.zeroValue155
  t146 := Tryd.underlying156
  a146 := Tryd.isAgg156
  z146 := Tryd.sizeOf156
  v146 := Tryd.zeroValue156
  g1 := by kernel_rfl }
open Go.RowKit Go.Lib in
/-- strings.Index: "Index returns the index of the first instance of substr in s, or -1 if substr is not present in s.": AT A substr OF ONE BYTE c: IT RETURNS 'Lib.indexByte s c'; the world is as it was. (LAID: no walk: one application.) -/
theorem Tryd.strings_Index_one (s : ByteArray) (c : UInt8) (w : World) :
    Calls Tryd.prog 86 #[.string s, .string ⟨#[c]⟩] w fun e w' => e = .returned (.int .i64 (Lib.indexByte s.data.toList c)) ∧ w' = w := Any.strings_Index_one Tryd.lays143 s c w
def Tryd.lays155_ren : Go.Shelf.Ren := ⟨fun | 155 => 85 | 154 => 106 | 138 => 119 | 165 => 120 | 143 => 86 | 166 => 121 | 197 => 109 | 169 => 122 | 195 => 133 | 218 => 134 | 240 => 135 | 241 => 136 | 219 => 107 | 260 => 127 | 276 => 141 | 277 => 142 | 217 => 123 | 225 => 124 | 224 => 125 | 267 => 126 | 266 => 137 | 314 => 138 | n => n, fun | 9 => 9 | 3 => 3 | 4 => 4 | 72 => 141 | 0 => 0 | 76 => 145 | 105 => 128 | 21 => 21 | 5 => 5 | 70 => 138 | 20 => 20 | 37 => 139 | 75 => 144 | 127 => 154 | 164 => 163 | 46 => 150 | 119 => 158 | 139 => 161 | 138 => 160 | 146 => 156 | 51 => 155 | 80 => 147 | n => n, fun | 1 => 0 | 3 => 1 | 4 => 2 | n => n⟩
theorem Tryd.lays155 : Go.Proofs.Lays.n155 Tryd.prog Tryd.lays155_ren := {
  mixed := by kernel_rfl
  f138 := Tryd.func119.trans (congrArg some (by kernel_rfl))
  f143 := Tryd.func86.trans (congrArg some (by kernel_rfl))
  f154 := Tryd.func106.trans (congrArg some (by kernel_rfl))
  f155 := Tryd.func85.trans (congrArg some (by kernel_rfl))
  f165 := Tryd.func120.trans (congrArg some (by kernel_rfl))
  f166 := Tryd.func121.trans (congrArg some (by kernel_rfl))
  f169 := Tryd.func122.trans (congrArg some (by kernel_rfl))
  f195 := Tryd.func133.trans (congrArg some (by kernel_rfl))
  f197 := Tryd.func109.trans (congrArg some (by kernel_rfl))
  f217 := Tryd.func123.trans (congrArg some (by kernel_rfl))
  f218 := Tryd.func134.trans (congrArg some (by kernel_rfl))
  f219 := Tryd.func107.trans (congrArg some (by kernel_rfl))
  f224 := Tryd.func125.trans (congrArg some (by kernel_rfl))
  f225 := Tryd.func124.trans (congrArg some (by kernel_rfl))
  f240 := Tryd.func135.trans (congrArg some (by kernel_rfl))
  f241 := Tryd.func136.trans (congrArg some (by kernel_rfl))
  f260 := Tryd.func127.trans (congrArg some (by kernel_rfl))
  f266 := Tryd.func137.trans (congrArg some (by kernel_rfl))
  f267 := Tryd.func126.trans (congrArg some (by kernel_rfl))
  f276 := Tryd.func141.trans (congrArg some (by kernel_rfl))
  f277 := Tryd.func142.trans (congrArg some (by kernel_rfl))
  f314 := Tryd.func138.trans (congrArg some (by kernel_rfl))
  t0 := Tryd.underlying0
  a0 := Tryd.isAgg0
  z0 := Tryd.sizeOf0
  v0 := Tryd.zeroValue0
  t3 := Tryd.underlying3
  a3 := Tryd.isAgg3
  z3 := Tryd.sizeOf3
  v3 := Tryd.zeroValue3
  t4 := Tryd.underlying4
  a4 := Tryd.isAgg4
  z4 := Tryd.sizeOf4
  v4 := Tryd.zeroValue4
  t5 := Tryd.underlying5
  a5 := Tryd.isAgg5
  z5 := Tryd.sizeOf5
  v5 := Tryd.zeroValue5
  t9 := Tryd.underlying9
  a9 := Tryd.isAgg9
  z9 := Tryd.sizeOf9
  v9 := Tryd.zeroValue9
  t20 := Tryd.underlying20
  a20 := Tryd.isAgg20
  z20 := Tryd.sizeOf20
  v20 := Tryd.zeroValue20
  t21 := Tryd.underlying21
  a21 := Tryd.isAgg21
  z21 := Tryd.sizeOf21
  v21 := Tryd.zeroValue21
  t37 := Tryd.underlying139
  a37 := Tryd.isAgg139
  z37 := Tryd.sizeOf139
  v37 := Tryd.zeroValue139
  t46 := Tryd.underlying150
  a46 := Tryd.isAgg150
  z46 := Tryd.sizeOf150
  v46 := Tryd.zeroValue150
  t51 := Tryd.underlying155
  a51 := Tryd.isAgg155
  z51 := Tryd.sizeOf155
  v51 := Tryd.zeroValue155
  t70 := Tryd.underlying138
  a70 := Tryd.isAgg138
  z70 := Tryd.sizeOf138
  v70 := Tryd.zeroValue138
  t72 := Tryd.underlying141
  a72 := Tryd.isAgg141
  z72 := Tryd.sizeOf141
  v72 := Tryd.zeroValue141
  t75 := Tryd.underlying144
  a75 := Tryd.isAgg144
  z75 := Tryd.sizeOf144
  v75 := Tryd.zeroValue144
  t76 := Tryd.underlying145
  a76 := Tryd.isAgg145
  z76 := Tryd.sizeOf145
  v76 := Tryd.zeroValue145
  t105 := Tryd.underlying128
  a105 := Tryd.isAgg128
  z105 := Tryd.sizeOf128
  v105 := Tryd.zeroValue128
  t119 := Tryd.underlying158
  a119 := Tryd.isAgg158
  z119 := Tryd.sizeOf158
  t127 := Tryd.underlying154
  a127 := Tryd.isAgg154
  z127 := Tryd.sizeOf154
  v127 := Tryd.zeroValue154
  t138 := Tryd.underlying160
  a138 := Tryd.isAgg160
  z138 := Tryd.sizeOf160
  v138 := Tryd.zeroValue160
  t139 := Tryd.underlying161
  a139 := Tryd.isAgg161
  z139 := Tryd.sizeOf161
  v139 := Tryd.zeroValue161
  t146 := Tryd.underlying156
  a146 := Tryd.isAgg156
  z146 := Tryd.sizeOf156
  v146 := Tryd.zeroValue156
  t164 := Tryd.underlying163
  a164 := Tryd.isAgg163
  z164 := Tryd.sizeOf163
  v164 := Tryd.zeroValue163
  g1 := by kernel_rfl
  g3 := by kernel_rfl
  g4 := by kernel_rfl }
theorem Tryd.Builder_Extra_155 : Builder.Extra Tryd.prog Tryd.lays155_ren := {
  sizeBuilder := by kernel_rfl
  liesBuilder := by kernel_rfl
  t5 := Tryd.underlying5
  a5 := Tryd.isAgg5
  z5 := Tryd.sizeOf5
  v5 := Tryd.zeroValue5
  infoByte := by kernel_rfl
  cellsByte := by kernel_rfl
  sizeByte := by kernel_rfl
  neB5 := by decide }
open Go.RowKit Go.Lib in
/-- strings.ReplaceAll: "ReplaceAll returns a copy of the string s with all non-overlapping instances of old replaced by new.": AT AN old THAT IS NOT EMPTY: 'Lib.replaceAll s old new'. (LAID: no walk: one application.) -/
theorem Tryd.strings_ReplaceAll (s old new : ByteArray) (m : Int) (w : World) (hs : s.size < 4294967281) (hm : w.cell? ⟨0, 0, none⟩ = some (.int .i64 m)) (h1 : 1 ≤ old.size) (hlen : s.size + Lib.countB s old * new.size ≤ 140737488355328) :
    Calls Tryd.prog 85 #[.string s, .string old, .string new] w fun e w' =>
      e = .returned (.string ⟨(Lib.replaceAll s.data.toList old.data.toList new.data.toList).toArray⟩) ∧ Below w.heap.size w w' := Any.strings_ReplaceAll Tryd.lays155 Tryd.Builder_Extra_155 s old new m w hs hm h1 hlen
end Go.Proofs
-- part XStr1
namespace Go.Proofs.YthcnfflhejogfaaDoor.X
open Go.RowKit Go.Proofs.YthcnfflhejogfaaDoorW.PrintWords Go.Proofs.YthcnfflhejogfaaDoorW.PrintLast Go.Proofs.YthcnfflhejogfaaDoorW.PrintMore
set_option linter.unusedVariables false
set_option linter.unusedSimpArgs false
def strings_Index.f (s sub : ByteArray) : Option Int := match sub.data.toList with | [c] => some (Lib.indexByte s.data.toList c) | _ => none
theorem one_byte {sub : ByteArray} {c : UInt8} (h : sub.data.toList = [c]) : sub = ⟨#[c]⟩ := ByteArray.ext (Array.toList_inj.1 h)
theorem strings_Index.calls (a0 a1 : ByteArray) (r : Int) (w : World) (h : strings_Index.f a0 a1 = some r) : Calls Tryd.prog 86 #[.string a0, .string a1] w fun e w' => e = .returned (.int .i64 r) ∧ Drawn0 w w' := by
  unfold strings_Index.f at h
  split at h
  · rename_i c e
    obtain rfl := one_byte e
    have h := Option.some.inj h
    subst h
    refine (Tryd.strings_Index_one a0 c w).mono ?_
    rintro e w1 ⟨rfl, he⟩
    exact ⟨rfl, he ▸ Drawn0.refl _⟩
  · cases h
def strings_Contains.f (s sub : ByteArray) : Option Bool := match sub.data.toList with | [c] => some (decide (0 ≤ Lib.indexByte s.data.toList c)) | _ => none
theorem strings_Contains.calls (a0 a1 : ByteArray) (r : Bool) (w : World) (h : strings_Contains.f a0 a1 = some r) : Calls Tryd.prog 62 #[.string a0, .string a1] w fun e w' => e = .returned (.bool r) ∧ Drawn0 w w' := by
  unfold strings_Contains.f at h
  split at h
  · rename_i c e
    obtain rfl := one_byte e
    have h := Option.some.inj h
    subst h
    obtain ⟨q, hq⟩ : ∃ q, Lib.indexByte a0.data.toList c = q := ⟨_, rfl⟩
    rw [hq]
    have HQ := Aside0.mk hq
    clear hq
    go_enter Tryd.func62, Tryd.ntmps62
    go_wp2_with fail
    refine (Tryd.strings_Index_one a0 c _).mono ?_
    rintro e w1 ⟨rfl, he⟩
    obtain rfl := he.symm
    clear he
    rw [HQ.out]
    go_wp2
    go_ret
    exact ⟨rfl, Drawn0.refl _⟩
  · cases h
end Go.Proofs.YthcnfflhejogfaaDoor.X
-- part XMn1
namespace Go.Proofs.YthcnfflhejogfaaDoor.X
open Go.RowKit Go.Proofs.YthcnfflhejogfaaDoorW.PrintWords Go.Proofs.YthcnfflhejogfaaDoorW.PrintLast Go.Proofs.YthcnfflhejogfaaDoorW.PrintMore
attribute [local go_sem] max2_int min2_int max_two min_two max_three min_three max_four min_four   -- for this text's walks alone
set_option linter.unusedVariables false
set_option linter.unusedSimpArgs false
def lines_May.l0 : Nat → List ByteArray → List ByteArray → Int → Int → Option (Bool)
  | 0, _, _, _, _ => none
  | k + 1, x0, x7, x8, x9 => if x9 < x8 then (if 0 ≤ x9 then (if x9 < (x7.length : Int) then ((strings_Index.f (rdOf ByteArray.empty x7 x9) (⟨#[10]⟩ : ByteArray)).bind fun t102 => (if t102 < 0 then (if ((rdOf ByteArray.empty x7 x9).size : Int) > 0 then (if (x9 = (wrap64 ((x0.length : Int) - 1))) then (lines_May.l0 k x0 x7 x8 (wrap64 (x9 + 1))) else (some false)) else (some false)) else (if t102 = (wrap64 (((rdOf ByteArray.empty x7 x9).size : Int) - 1)) then (lines_May.l0 k x0 x7 x8 (wrap64 (x9 + 1))) else (some false)))) else (none)) else (none)) else (some true)
def lines_May.f (k : Nat) (l0 : List ByteArray) : Option (Bool) := lines_May.l0 k l0 l0 (l0.length : Int) 0
theorem lines_May.mono_l : ∀ k, (∀ y0 y1 y2 y3, LeO (lines_May.l0 k y0 y1 y2 y3) (lines_May.l0 (k + 1) y0 y1 y2 y3))
  | 0 => fun _ _ _ _ r h => by simp [lines_May.l0] at h
  | k + 1 => by
    have ih0 := lines_May.mono_l k
    · intro y0 y1 y2 y3
      unfold lines_May.l0
      repeat' first
      | (with_reducible exact ih0 _ _ _ _)
      | (with_reducible exact LeO.refl _)
      | (with_reducible exact LeO.none _)
      | (with_reducible refine LeO.ite ?_ ?_)
      | (with_reducible refine LeO.bind ?_ (fun _ => ?_))
      | exact ih0 _ _ _ _
      | exact LeO.none _
      | refine LeO.ite ?_ ?_
      | refine LeO.bind ?_ (fun _ => ?_)
theorem lines_May.mono : ∀ a0 k, LeO (lines_May.f k a0) (lines_May.f (k + 1) a0) := by
  intro a0 k
  have ih0 := lines_May.mono_l k
  unfold lines_May.f
  repeat' first
      | (with_reducible exact ih0 _ _ _ _)
      | (with_reducible exact LeO.refl _)
      | (with_reducible exact LeO.none _)
      | (with_reducible refine LeO.ite ?_ ?_)
      | (with_reducible refine LeO.bind ?_ (fun _ => ?_))
      | exact ih0 _ _ _ _
      | exact LeO.none _
      | refine LeO.ite ?_ ?_
      | refine LeO.bind ?_ (fun _ => ?_)
set_option maxHeartbeats 8000000 in
set_option maxRecDepth 100000 in
theorem lines_May.calls (k : Nat) (A0 : Option Addr) (c0 : Nat) (l0 : List ByteArray) (r : Bool) (w : World) (hr0 : Kd.C Kd.string w A0 l0.length l0) (hc0 : l0.length ≤ c0) (h : lines_May.f k l0 = some r) :
    Calls Tryd.prog 65 #[.slice A0 l0.length c0] w fun e w' => e = .returned (.bool r) ∧ Drawn0 w w' := by
  have HR0 := Aside0.mk hr0
  have HC0 := Aside0.mk hc0
  clear hr0 hc0
  have H : (lines_May.l0 k l0 l0 (l0.length : Int) 0) = some r := h
  clear h
  have H' := Aside0.mk H
  clear H
  go_enter Tryd.func65, Tryd.ntmps65
  go_wp2
  go_loopg [9] k (fun kq v9 w' => ∃ (x9_1 : Int), v9 = .int .i64 x9_1 ∧ Aside0 (lines_May.l0 kq l0 l0 (l0.length : Int) x9_1 = some r) ∧ Aside0 (kq ≤ k) ∧ Drawn0 w w')
  case atStart => exact ⟨(0), (by first | rfl | (simp; done) | (simp [*]; done)), H', ⟨Nat.le_refl _⟩, by repeat (first | exact Drawn0.refl _ | apply Drawn0.step)⟩
  case round =>
    clear H'
    obtain ⟨x9_1, rfl, HA, HK1, ⟨m1, rfl⟩⟩ := hrel
    cases gk with
    | zero => exact absurd HA.out (by simp [lines_May.l0])
    | succ k1 =>
      have H := HA.out
      clear HA
      simp only [lines_May.l0] at H
      by_cases c2 : x9_1 < (l0.length : Int)
      · rw [if_pos c2] at H
        have c2b0 : decide (x9_1 < (l0.length : Int)) = true := decide_eq_true c2
        clear c2
        by_cases c3 : 0 ≤ x9_1
        · rw [if_pos c3] at H
          have c3b0 : decide (0 ≤ x9_1) = true := decide_eq_true c3
          clear c3
          by_cases c4 : x9_1 < (l0.length : Int)
          · rw [if_pos c4] at H
            have c4b0 : decide (x9_1 < (l0.length : Int)) = true := decide_eq_true c4
            clear c4
            replace H := Option.bind_eq_some_iff.mp H
            obtain ⟨t102, A50, H⟩ := H
            replace H : (if t102 < 0 then (if ((rdOf ByteArray.empty l0 x9_1).size : Int) > 0 then (if (x9_1 = (wrap64 ((l0.length : Int) - 1))) then (lines_May.l0 k1 l0 l0 (l0.length : Int) (wrap64 (x9_1 + 1))) else (some false)) else (some false)) else (if t102 = (wrap64 (((rdOf ByteArray.empty l0 x9_1).size : Int) - 1)) then (lines_May.l0 k1 l0 l0 (l0.length : Int) (wrap64 (x9_1 + 1))) else (some false))) = some r := H
            have A5 := Aside0.mk A50
            clear A50
            by_cases c6 : t102 < 0
            · rw [if_pos c6] at H
              have c6b0 : decide (t102 < 0) = true := decide_eq_true c6
              clear c6
              by_cases c7 : ((rdOf ByteArray.empty l0 x9_1).size : Int) > 0
              · rw [if_pos c7] at H
                have c7b0 : decide (0 < ((rdOf ByteArray.empty l0 x9_1).size : Int)) = true := decide_eq_true c7
                have c7b1 : decide (0 < (rdOf ByteArray.empty l0 x9_1).size) = true := decide_eq_true (by omega)
                clear c7
                by_cases c8 : (x9_1 = (wrap64 ((l0.length : Int) - 1)))
                · rw [if_pos c8] at H
                  have c8b0 : (x9_1 == (wrap64 ((l0.length : Int) - 1))) = true := beq_iff_eq.mpr c8
                  have c8b1 : (x9_1 != (wrap64 ((l0.length : Int) - 1))) = false := bne_eq_false_iff_eq.mpr c8
                  clear c8
                  have H' := Aside0.mk H
                  clear H
                  have p101 : 0 ≤ (x9_1 : Int) := of_decide_eq_true (by first | (with_reducible assumption) | assumption)
                  have q101 : x9_1 < (l0.length : Int) := of_decide_eq_true (by first | (with_reducible assumption) | assumption)
                  obtain ⟨ad101, e101, hx101_0⟩ := Kd.at_string HR0.out x9_1 p101 q101
                  cases e101
                  replace p101 := eq_true p101
                  replace q101 := eq_true q101
                  go_wp2_with (first | ((with_reducible refine gate_callee (f := 86) rfl ?_); refine goesL_ (some 15) rfl rfl Tryd.func86 (by kernel_rfl) rfl #[.string (rdOf ByteArray.empty l0 x9_1), .string (⟨#[10]⟩ : ByteArray)] rfl (by (try simp only [List.map_toArray, List.map_cons, List.map_nil]); first | done | rfl | (simp only [List.length_drop, List.length_take]; rfl)) ?_; (with_reducible refine (strings_Index.calls (rdOf ByteArray.empty l0 x9_1) (⟨#[10]⟩ : ByteArray) t102 _ A5.out).mono ?_); rintro e w' ⟨rfl, ⟨nd, rfl⟩⟩; refine ⟨_, rfl, ?_⟩))
                  go_roundg k1
                  case measure => have := HK1.out; omega
                  case rel => exact ⟨(wrap64 (x9_1 + 1)), (by first | rfl | (simp; done) | (simp [*]; done)), H', ⟨by have := HK1.out; omega⟩, by repeat (first | exact Drawn0.refl _ | apply Drawn0.step)⟩
                · rw [if_neg c8] at H
                  have c8b0 : (x9_1 == (wrap64 ((l0.length : Int) - 1))) = false := beq_eq_false_iff_ne.mpr c8
                  have c8b1 : (x9_1 != (wrap64 ((l0.length : Int) - 1))) = true := bne_iff_ne.mpr c8
                  obtain rfl := Option.some.inj H
                  have p101 : 0 ≤ (x9_1 : Int) := of_decide_eq_true (by first | (with_reducible assumption) | assumption)
                  have q101 : x9_1 < (l0.length : Int) := of_decide_eq_true (by first | (with_reducible assumption) | assumption)
                  obtain ⟨ad101, e101, hx101_0⟩ := Kd.at_string HR0.out x9_1 p101 q101
                  cases e101
                  replace p101 := eq_true p101
                  replace q101 := eq_true q101
                  go_wp2_with (first | ((with_reducible refine gate_callee (f := 86) rfl ?_); refine goesL_ (some 15) rfl rfl Tryd.func86 (by kernel_rfl) rfl #[.string (rdOf ByteArray.empty l0 x9_1), .string (⟨#[10]⟩ : ByteArray)] rfl (by (try simp only [List.map_toArray, List.map_cons, List.map_nil]); first | done | rfl | (simp only [List.length_drop, List.length_take]; rfl)) ?_; (with_reducible refine (strings_Index.calls (rdOf ByteArray.empty l0 x9_1) (⟨#[10]⟩ : ByteArray) t102 _ A5.out).mono ?_); rintro e w' ⟨rfl, ⟨nd, rfl⟩⟩; refine ⟨_, rfl, ?_⟩))
                  go_ret
                  exact ⟨by first | rfl | (simp; done) | (simp [*]; done), by repeat (first | exact Drawn0.refl _ | apply Drawn0.step)⟩
              · rw [if_neg c7] at H
                have c7b0 : decide (0 < ((rdOf ByteArray.empty l0 x9_1).size : Int)) = false := decide_eq_false c7
                have c7b1 : decide (0 < (rdOf ByteArray.empty l0 x9_1).size) = false := decide_eq_false (by omega)
                clear c7
                obtain rfl := Option.some.inj H
                have p101 : 0 ≤ (x9_1 : Int) := of_decide_eq_true (by first | (with_reducible assumption) | assumption)
                have q101 : x9_1 < (l0.length : Int) := of_decide_eq_true (by first | (with_reducible assumption) | assumption)
                obtain ⟨ad101, e101, hx101_0⟩ := Kd.at_string HR0.out x9_1 p101 q101
                cases e101
                replace p101 := eq_true p101
                replace q101 := eq_true q101
                go_wp2_with (first | ((with_reducible refine gate_callee (f := 86) rfl ?_); refine goesL_ (some 15) rfl rfl Tryd.func86 (by kernel_rfl) rfl #[.string (rdOf ByteArray.empty l0 x9_1), .string (⟨#[10]⟩ : ByteArray)] rfl (by (try simp only [List.map_toArray, List.map_cons, List.map_nil]); first | done | rfl | (simp only [List.length_drop, List.length_take]; rfl)) ?_; (with_reducible refine (strings_Index.calls (rdOf ByteArray.empty l0 x9_1) (⟨#[10]⟩ : ByteArray) t102 _ A5.out).mono ?_); rintro e w' ⟨rfl, ⟨nd, rfl⟩⟩; refine ⟨_, rfl, ?_⟩))
                go_ret
                exact ⟨by first | rfl | (simp; done) | (simp [*]; done), by repeat (first | exact Drawn0.refl _ | apply Drawn0.step)⟩
            · rw [if_neg c6] at H
              have c6b0 : decide (t102 < 0) = false := decide_eq_false c6
              clear c6
              by_cases c9 : t102 = (wrap64 (((rdOf ByteArray.empty l0 x9_1).size : Int) - 1))
              · rw [if_pos c9] at H
                have c9b0 : (t102 == (wrap64 (((rdOf ByteArray.empty l0 x9_1).size : Int) - 1))) = true := beq_iff_eq.mpr c9
                have c9b1 : (t102 != (wrap64 (((rdOf ByteArray.empty l0 x9_1).size : Int) - 1))) = false := bne_eq_false_iff_eq.mpr c9
                clear c9
                have H' := Aside0.mk H
                clear H
                have p101 : 0 ≤ (x9_1 : Int) := of_decide_eq_true (by first | (with_reducible assumption) | assumption)
                have q101 : x9_1 < (l0.length : Int) := of_decide_eq_true (by first | (with_reducible assumption) | assumption)
                obtain ⟨ad101, e101, hx101_0⟩ := Kd.at_string HR0.out x9_1 p101 q101
                cases e101
                replace p101 := eq_true p101
                replace q101 := eq_true q101
                go_wp2_with (first | ((with_reducible refine gate_callee (f := 86) rfl ?_); refine goesL_ (some 15) rfl rfl Tryd.func86 (by kernel_rfl) rfl #[.string (rdOf ByteArray.empty l0 x9_1), .string (⟨#[10]⟩ : ByteArray)] rfl (by (try simp only [List.map_toArray, List.map_cons, List.map_nil]); first | done | rfl | (simp only [List.length_drop, List.length_take]; rfl)) ?_; (with_reducible refine (strings_Index.calls (rdOf ByteArray.empty l0 x9_1) (⟨#[10]⟩ : ByteArray) t102 _ A5.out).mono ?_); rintro e w' ⟨rfl, ⟨nd, rfl⟩⟩; refine ⟨_, rfl, ?_⟩))
                go_roundg k1
                case measure => have := HK1.out; omega
                case rel => exact ⟨(wrap64 (x9_1 + 1)), (by first | rfl | (simp; done) | (simp [*]; done)), H', ⟨by have := HK1.out; omega⟩, by repeat (first | exact Drawn0.refl _ | apply Drawn0.step)⟩
              · rw [if_neg c9] at H
                have c9b0 : (t102 == (wrap64 (((rdOf ByteArray.empty l0 x9_1).size : Int) - 1))) = false := beq_eq_false_iff_ne.mpr c9
                have c9b1 : (t102 != (wrap64 (((rdOf ByteArray.empty l0 x9_1).size : Int) - 1))) = true := bne_iff_ne.mpr c9
                obtain rfl := Option.some.inj H
                have p101 : 0 ≤ (x9_1 : Int) := of_decide_eq_true (by first | (with_reducible assumption) | assumption)
                have q101 : x9_1 < (l0.length : Int) := of_decide_eq_true (by first | (with_reducible assumption) | assumption)
                obtain ⟨ad101, e101, hx101_0⟩ := Kd.at_string HR0.out x9_1 p101 q101
                cases e101
                replace p101 := eq_true p101
                replace q101 := eq_true q101
                go_wp2_with (first | ((with_reducible refine gate_callee (f := 86) rfl ?_); refine goesL_ (some 15) rfl rfl Tryd.func86 (by kernel_rfl) rfl #[.string (rdOf ByteArray.empty l0 x9_1), .string (⟨#[10]⟩ : ByteArray)] rfl (by (try simp only [List.map_toArray, List.map_cons, List.map_nil]); first | done | rfl | (simp only [List.length_drop, List.length_take]; rfl)) ?_; (with_reducible refine (strings_Index.calls (rdOf ByteArray.empty l0 x9_1) (⟨#[10]⟩ : ByteArray) t102 _ A5.out).mono ?_); rintro e w' ⟨rfl, ⟨nd, rfl⟩⟩; refine ⟨_, rfl, ?_⟩))
                go_ret
                exact ⟨by first | rfl | (simp; done) | (simp [*]; done), by repeat (first | exact Drawn0.refl _ | apply Drawn0.step)⟩
          · rw [if_neg c4] at H
            exact absurd H (by simp)
        · rw [if_neg c3] at H
          exact absurd H (by simp)
      · rw [if_neg c2] at H
        have c2b0 : decide (x9_1 < (l0.length : Int)) = false := decide_eq_false c2
        clear c2
        obtain rfl := Option.some.inj H
        go_wp2
        go_ret
        exact ⟨by first | rfl | (simp; done) | (simp [*]; done), by repeat (first | exact Drawn0.refl _ | apply Drawn0.step)⟩

def table_Lost.f (a0_0 : ByteArray) (a0_1 : ByteArray) : Option (Bool) := (strings_Contains.f a0_0 (⟨#[45]⟩ : ByteArray)).bind fun t104 => (some t104)
set_option maxHeartbeats 8000000 in
set_option maxRecDepth 100000 in
theorem table_Lost.calls (a0_0 : ByteArray) (a0_1 : ByteArray) (r : Bool) (w : World) (h : table_Lost.f a0_0 a0_1 = some r) :
    Calls Tryd.prog 68 #[.agg #[.string a0_0, .string a0_1]] w fun e w' => e = .returned (.bool r) ∧ Below w.heap.size w w' := by
  have hu57 := Tryd.underlying57
  have HB := Aside0.mk (Below.refl w.heap.size w)
  have H : ((strings_Contains.f a0_0 (⟨#[45]⟩ : ByteArray)).bind fun t104 => (some t104)) = some r := h
  clear h
  replace H := Option.bind_eq_some_iff.mp H
  obtain ⟨t104, A20, H⟩ := H
  replace H : (some t104) = some r := H
  have A2 := Aside0.mk A20
  clear A20
  obtain rfl := Option.some.inj H
  go_enter Tryd.func68, Tryd.ntmps68
  go_wp2_with (first | ((with_reducible refine gate_dst (N := 1) rfl ?_); refine box_event ?hg (N := 1) ?hd (cs := #[.string a0_0, .string a0_1]) (t := 57) ?hr ?_; (case hd => rfl); (case hg => rfl); (case hr => first | (go_simp; done) | (go_simp; rfl)); intro gb103 hg w3 hbox hb; have n0_ := Aside0.mk (below_step (by repeat (first | (with_reducible first | exact HB.out | apply below_alloc | apply pw_below_drewN | apply below_drew1) | exact HB.out)) hb); have n1_ := Aside0.mk (hbox); have n2_ := Aside0.mk ((by rw [hg]; exact (below_size (by repeat (first | (with_reducible first | exact HB.out | apply below_alloc | apply pw_below_drewN | apply below_drew1) | exact HB.out))) : w.heap.size ≤ gb103)); have n3_ := Aside0.mk ((by rw [hg]; exact (below_size (by repeat (first | (with_reducible first | exact HB.out | apply below_alloc | apply pw_below_drewN | apply below_drew1) | exact HB.out))) : w.heap.size ≤ gb103)); clear HB; have HB := n0_; have BK103 := n1_; have GW103 := n2_; have GE103 := n3_; clear n0_ n1_ n2_ n3_; clear hb hbox hg; have hcz4_0 : w3.cell? ⟨gb103, 0, none⟩ = some (.string a0_0) := (blk_cell BK103.out 0).trans rfl; have hcz4_1 : w3.cell? ⟨gb103, 1, none⟩ = some (.string a0_1) := (blk_cell BK103.out 1).trans rfl; have hfz4_0 := blk_frozen BK103.out 0; have hfz4_1 := blk_frozen BK103.out 1) | ((with_reducible refine gate_callee (f := 62) rfl ?_); refine goesL_ (some 5) rfl rfl Tryd.func62 (by kernel_rfl) rfl #[.string a0_0, .string (⟨#[45]⟩ : ByteArray)] rfl (by (try simp only [List.map_toArray, List.map_cons, List.map_nil]); first | done | rfl | (simp only [List.length_drop, List.length_take]; rfl)) ?_; (with_reducible refine (strings_Contains.calls a0_0 (⟨#[45]⟩ : ByteArray) t104 _ A2.out).mono ?_); rintro e w' ⟨rfl, ⟨nd, rfl⟩⟩; refine ⟨_, rfl, ?_⟩))
  go_ret
  exact ⟨by first | rfl | (simp [errW_none, errW_some] <;> rfl) | (simp [*, errW_none, errW_some] <;> rfl), by repeat (first | (with_reducible first | exact HB.out | apply below_alloc | apply pw_below_drewN | apply below_drew1 | refine below_set ?_ GE103.out) | exact HB.out)⟩

end Go.Proofs.YthcnfflhejogfaaDoor.X
-- part XTexts
namespace Go.Proofs.YthcnfflhejogfaaDoor.X
open Go.RowKit Go.Proofs.YthcnfflhejogfaaDoorW.PrintWords Go.Proofs.YthcnfflhejogfaaDoorW.PrintLast Go.Proofs.YthcnfflhejogfaaDoorW.PrintMore
set_option linter.unusedVariables false
set_option linter.unusedSimpArgs false
/-- Is a row lost? -/
def lostB (s : ByteArray) : Bool := decide (0 ≤ Lib.indexByte s.data.toList 45)
theorem table_lost (x0 x1 : ByteArray) (w : World) : Calls Tryd.prog 68 #[.agg #[.string x0, .string x1]] w fun e w' => e = .returned (.bool (lostB x0)) ∧ Below w.heap.size w w' :=
  table_Lost.calls x0 x1 (lostB x0) w rfl
theorem ask_Result (x0 x1 : ByteArray) (w : World) : Calls Tryd.prog 67 #[.agg #[.string x0, .string x1]] w fun e w' => e = .returned (.bool (!lostB x0)) ∧ Aside0 (Below w.heap.size w w') := by
  go_enter Tryd.func67, Tryd.ntmps67
  go_wp2_with fail
  refine (table_lost x0 x1 _).mono ?_
  rintro e w1 ⟨rfl, hb⟩
  have HB : Aside0 (Below w.heap.size w w1) := ⟨((Below.refl _ w).alloc (Nat.le_refl _) _).trans (hb.mono (by simp))⟩
  clear hb
  go_wp2
  go_ret
  exact ⟨rfl, HB⟩
/-- Is a row the parent's of a column? -/
def ofB (i : Int) (s : ByteArray) : Bool := decide (0 ≤ i) && (decide (i < (s.size : Int)) && (decide (bt s i = 45) || (decide (bt s i = 32) && !lostB s)))
theorem ofB_cases (i : Int) (s : ByteArray) : (i < 0 ∧ ofB i s = false) ∨ (∃ n : Nat, i = (n : Int) ∧ s.size ≤ n ∧ ofB i s = false) ∨ (∃ (n : Nat) (h : n < s.size), i = (n : Int) ∧ ofB i s = (decide (s[n] = 45) || (decide (s[n] = 32) && !lostB s))) := by
  by_cases h0 : i < 0
  · exact .inl ⟨h0, by rw [ofB, decide_eq_false (by omega)]; rfl⟩
  · obtain ⟨n, rfl⟩ : ∃ n : Nat, i = (n : Int) := ⟨i.toNat, by omega⟩
    by_cases h1 : n < s.size
    · refine .inr (.inr ⟨n, h1, rfl, ?_⟩)
      have e : bt s (n : Int) = (s[n].toNat : Int) := by simp [bt, h1]
      have c : ∀ c : UInt8, decide ((s[n].toNat : Int) = (c.toNat : Int)) = decide (s[n] = c) := fun c => by
        rw [decide_eq_decide]
        constructor
        · intro h; exact UInt8.toNat_inj.1 (by omega)
        · intro h; rw [h]
      have c1 := c 45
      have c2 := c 32
      have e1 : (((45 : UInt8).toNat : Nat) : Int) = 45 := rfl
      have e2 : (((32 : UInt8).toNat : Nat) : Int) = 32 := rfl
      rw [e1] at c1
      rw [e2] at c2
      rw [ofB, decide_eq_true (by omega), decide_eq_true (by omega), e, c1, c2]; rfl
    · exact .inr (.inl ⟨n, rfl, by omega, by rw [ofB, decide_eq_false (show ¬ (n : Int) < s.size by omega)]; simp⟩)
set_option maxRecDepth 100000 in
set_option maxHeartbeats 2000000 in
theorem ask_Column (g : Nat) (i : Int) (x0 x1 : ByteArray) (w : World) (hc : w.cell? ⟨g, 0, none⟩ = some (.int .i64 i)) (hs : x0.size ≤ 1000000000000) : Calls Tryd.prog 69 #[.agg #[.string x0, .string x1], .pointer (some ⟨g, 0, none⟩)] w fun e w' => e = .returned (.bool (ofB i x0)) ∧ Aside0 (Below w.heap.size w w') := by
  have hg : g < w.heap.size := World.block_lt_of_cell? w _ hc
  have hc1 : ∀ o, (w.alloc o).cell? ⟨g, 0, none⟩ = some (.int .i64 i) := fun o => cell_alloc_of hc o
  have hbl : ∀ o, Below w.heap.size w (w.alloc o) := fun o => (Below.refl _ w).alloc (Nat.le_refl _) o
  have HBL := Aside0.mk hbl
  clear hbl
  rcases ofB_cases i x0 with ⟨h0, he⟩ | ⟨n, rfl, h1, he⟩ | ⟨n, h1, rfl, he⟩
  · have d1 : decide (0 ≤ i) = false := decide_eq_false (by omega)
    rw [he]
    clear he
    go_enter Tryd.func69, Tryd.ntmps69
    go_wp2
    go_ret
    exact ⟨rfl, ⟨HBL.out _⟩⟩
  · have d1 : decide ((0 : Int) ≤ (n : Int)) = true := decide_eq_true (by omega)
    have d2 : decide ((n : Int) < (x0.size : Int)) = false := decide_eq_false (by omega)
    have d3 : decide (n < x0.size) = false := decide_eq_false (by omega)
    rw [he]
    clear he
    go_enter Tryd.func69, Tryd.ntmps69
    go_wp2
    go_ret
    exact ⟨rfl, ⟨HBL.out _⟩⟩
  · have d1 : decide ((0 : Int) ≤ (n : Int)) = true := decide_eq_true (by omega)
    have d2 : decide ((n : Int) < (x0.size : Int)) = true := decide_eq_true (by omega)
    have d3 : decide (n < x0.size) = true := decide_eq_true (by omega)
    rw [he]
    clear he
    obtain ⟨c, hcc⟩ : ∃ c, x0[n] = c := ⟨_, rfl⟩
    rw [hcc]
    by_cases e45 : c = 45
    · subst e45
      go_enter Tryd.func69, Tryd.ntmps69
      go_wp2
      go_ret
      exact ⟨rfl, ⟨HBL.out _⟩⟩
    · have n45 : ¬ ((c.toNat : Nat) : Int) = 45 := fun h => e45 (UInt8.toNat_inj.1 (by show _ = 45; omega))
      have b45 : (((c.toNat : Nat) : Int) == 45) = false := by simpa using n45
      have b45' : decide (((c.toNat : Nat) : Int) = 45) = false := decide_eq_false n45
      rw [decide_eq_false e45, Bool.false_or]
      by_cases e32 : c = 32
      · subst e32
        cases hl : lostB x0
        all_goals
          have HLB := Aside0.mk hl
          clear hl
          go_enter Tryd.func69, Tryd.ntmps69
          go_wp2_with fail
          refine (table_lost x0 x1 _).mono ?_
          rintro e w1 ⟨rfl, hb⟩
          have HB : Aside0 (Below w.heap.size w w1) := ⟨(HBL.out _).trans (hb.mono (by simp))⟩
          clear hb
          rw [HLB.out]
          go_wp2
          go_ret
          exact ⟨rfl, HB⟩
      · have n32 : ¬ ((c.toNat : Nat) : Int) = 32 := fun h => e32 (UInt8.toNat_inj.1 (by show _ = 32; omega))
        have b32 : (((c.toNat : Nat) : Int) == 32) = false := by simpa using n32
        have b32' : decide (((c.toNat : Nat) : Int) = 32) = false := decide_eq_false n32
        rw [decide_eq_false e32]
        go_enter Tryd.func69, Tryd.ntmps69
        go_wp2
        go_ret
        exact ⟨rfl, ⟨HBL.out _⟩⟩
set_option maxRecDepth 100000 in
set_option maxHeartbeats 2000000 in
theorem texts_Result (A : Option Addr) (c : Nat) (rows : List S57) (w : World) (hC : Kd.C k57 w A rows.length rows) (hc : rows.length ≤ c) (hn : rows.length ≤ 1000000000) (hsz : ∀ x ∈ rows, x.f0.size ≤ 1000000000000) :
    Calls Tryd.prog 66 #[.slice A rows.length c, .func (.func 67) #[] #[]] w fun e w' => ∃ v, e = .returned v ∧ Aside0 (Kd.R Kd.string 9 w' w.heap.size (fun _ => True) v ((rows.filter (fun x : S57 => !lostB x.f0)).map (·.f1))) ∧ Aside0 (Below w.heap.size w w') := by
  have HC := Aside0.mk hC
  have HSZ := Aside0.mk hsz
  have _t := trivial
  clear hC hsz
  go_enter Tryd.func66, Tryd.ntmps66
  go_wp2_with fail
  go_loopw [5, 10] (fun v iv wr => ∃ (k : Nat) (Ao : Option Addr) (co m : Nat), v = .slice Ao m co ∧ iv = .int .i64 k ∧ k ≤ rows.length ∧ Aside0 (Kd.R Kd.string 9 wr w.heap.size (fun _ => True) (.slice Ao m co) (((rows.take k).filter (fun x : S57 => !lostB x.f0)).map (·.f1))) ∧ Aside0 (Below w.heap.size w wr)) (fun _ iv _ => rows.length - (intOf iv).toNat)
  case atStart => exact ⟨0, _, _, _, rfl, rfl, Nat.zero_le _, ⟨Kd.R_nil _ _ _ _ _⟩, ⟨Below.refl _ _⟩⟩
  case round =>
    obtain ⟨k, Ao, co, m, rfl, rfl, hk, HR, HB⟩ := hrel
    by_cases hlt : k < rows.length
    · obtain ⟨ad, rfl, x0, x1⟩ := at_T57 HC.out (k : Int) (by omega) (by omega)
      have hx : rd_T57 rows (k : Int) = rows[k] := getN hlt
      have htk : rows.take (k + 1) = rows.take k ++ [rows[k]] := (List.take_append_getElem hlt).symm
      have hxs := HSZ.out _ (List.getElem_mem hlt)
      obtain ⟨x, hxe⟩ : ∃ x, rows[k] = x := ⟨_, rfl⟩
      rw [hx, hxe] at x0 x1
      rw [hxe] at htk hxs
      have HTK := Aside0.mk htk
      have HXS := Aside0.mk hxs
      have hm : (((rows.take k).filter (fun x : S57 => !lostB x.f0)).map (·.f1)).length ≤ 1000000000 := by
        rw [List.length_map]
        have := List.length_filter_le (fun x : S57 => !lostB x.f0) (rows.take k)
        rw [List.length_take] at this
        omega
      have HM := Aside0.mk hm
      clear hx hxe htk hxs hm
      replace x0 := (HB.out.cell (World.block_lt_of_cell? w _ x0)).trans x0
      replace x1 := (HB.out.cell (World.block_lt_of_cell? w _ x1)).trans x1
      have kk : (k : Int).toNat = k := by omega
      rw [kk] at x0 x1
      clear kk
      have HW2 : Aside0 (Below w.heap.size w (wr.alloc (.cells #[.string x.f0, .string x.f1] 57))) := ⟨HB.out.alloc HB.out.size _⟩
      obtain ⟨q, hq⟩ : ∃ q, (!lostB x.f0) = q := ⟨_, rfl⟩
      have HQ := Aside0.mk hq
      clear hq
      have HF : Aside0 (((rows.take (k + 1)).filter (fun x : S57 => !lostB x.f0)).map (·.f1) = ((rows.take k).filter (fun x : S57 => !lostB x.f0)).map (·.f1) ++ if q = true then [x.f1] else []) := ⟨by
        rw [HTK.out, List.filter_append, List.map_append]
        congr 1
        rw [List.filter_cons, HQ.out]
        cases q <;> rfl⟩
      go_wp2_with fail
      refine ((ask_Result x.f0 x.f1 _)).mono ?_
      rintro e w1 ⟨rfl, hb1⟩
      have HB1 : Aside0 (Below w.heap.size w w1) := ⟨HW2.out.trans (hb1.out.mono HW2.out.size)⟩
      have c1 : w1.cell? ⟨wr.heap.size, 1, none⟩ = some (.string x.f1) := (hb1.out.cell (by simp)).trans (cell_blk (blk_new wr _) rfl)
      have HR1 : Aside0 (Kd.R Kd.string 9 w1 w.heap.size (fun _ => True) (.slice Ao m co) (((rows.take k).filter (fun x : S57 => !lostB x.f0)).map (·.f1))) := ⟨Kd.R_below (Kd.R_below HR.out ((Below.refl _ wr).alloc (Nat.le_refl _) _)) hb1.out⟩
      rw [HQ.out]
      clear hb1 HR HQ
      cases q
      · rw [if_neg (by decide), List.append_nil] at HF
        go_wp2
        go_roundw
        case measure => simp [intOf]; omega
        case rel => exact ⟨k + 1, _, _, _, rfl, by go_num, by omega, by rw [HF.out]; exact HR1, HB1⟩
      · rw [if_pos rfl] at HF
        go_wp2_with (first
          | (at_builtin; refine Kd.R_append Kd.string (w0 := w) w.heap.size rfl (.tmp 17) (.tmp 20) 23 9 (.string ⟨#[]⟩) 16 rfl Tryd.underlying23 info9 rfl (by decide) (by decide) (.slice Ao m co) (((rows.take k).filter (fun x : S57 => !lostB x.f0)).map (·.f1)) x.f1 [.string x.f1] (fun _ => True) (fun _ => False) rfl rfl rfl (fun _ h => h.elim) (fun _ _ => trivial) HR1.out HB1.out HB1.out.size (by have := HM.out; omega) ?_; intro v2 w2 ho2 hb2 hg2 hat2; obtain ⟨A2, c2, hv2⟩ := Kd.R_slice ho2; subst hv2; generalize (((rows.take k).filter (fun x : S57 => !lostB x.f0)).map (·.f1) ++ [x.f1]).length = m2 at ho2 ⊢; have HO2 := Aside0.mk ho2; have HB2 := Aside0.mk hb2; clear ho2 hb2 hg2 hat2))
        go_roundw
        case measure => simp [intOf]; omega
        case rel => exact ⟨k + 1, _, _, _, rfl, by go_num, by omega, by rw [HF.out]; exact HO2, HB2⟩
    · have hk' : k = rows.length := by omega
      subst hk'
      rw [List.take_length] at HR
      go_wp2
      go_ret
      exact ⟨_, rfl, HR, HB⟩
set_option maxRecDepth 100000 in
set_option maxHeartbeats 2000000 in
theorem texts_Column (A : Option Addr) (c : Nat) (rows : List S57) (g : Nat) (i : Int) (w : World) (hcap : w.cell? ⟨g, 0, none⟩ = some (.int .i64 i)) (hC : Kd.C k57 w A rows.length rows) (hc : rows.length ≤ c) (hn : rows.length ≤ 1000000000) (hsz : ∀ x ∈ rows, x.f0.size ≤ 1000000000000) :
    Calls Tryd.prog 66 #[.slice A rows.length c, .func (.func 69) #[] #[.pointer (some ⟨g, 0, none⟩)]] w fun e w' => ∃ v, e = .returned v ∧ Aside0 (Kd.R Kd.string 9 w' w.heap.size (fun _ => True) v ((rows.filter (fun x : S57 => ofB i x.f0)).map (·.f1))) ∧ Aside0 (Below w.heap.size w w') := by
  have HC := Aside0.mk hC
  have HSZ := Aside0.mk hsz
  have HCAP := Aside0.mk hcap; clear hcap
  clear hC hsz
  go_enter Tryd.func66, Tryd.ntmps66
  go_wp2_with fail
  go_loopw [5, 10] (fun v iv wr => ∃ (k : Nat) (Ao : Option Addr) (co m : Nat), v = .slice Ao m co ∧ iv = .int .i64 k ∧ k ≤ rows.length ∧ Aside0 (Kd.R Kd.string 9 wr w.heap.size (fun _ => True) (.slice Ao m co) (((rows.take k).filter (fun x : S57 => ofB i x.f0)).map (·.f1))) ∧ Aside0 (Below w.heap.size w wr)) (fun _ iv _ => rows.length - (intOf iv).toNat)
  case atStart => exact ⟨0, _, _, _, rfl, rfl, Nat.zero_le _, ⟨Kd.R_nil _ _ _ _ _⟩, ⟨Below.refl _ _⟩⟩
  case round =>
    obtain ⟨k, Ao, co, m, rfl, rfl, hk, HR, HB⟩ := hrel
    by_cases hlt : k < rows.length
    · obtain ⟨ad, rfl, x0, x1⟩ := at_T57 HC.out (k : Int) (by omega) (by omega)
      have hx : rd_T57 rows (k : Int) = rows[k] := getN hlt
      have htk : rows.take (k + 1) = rows.take k ++ [rows[k]] := (List.take_append_getElem hlt).symm
      have hxs := HSZ.out _ (List.getElem_mem hlt)
      obtain ⟨x, hxe⟩ : ∃ x, rows[k] = x := ⟨_, rfl⟩
      rw [hx, hxe] at x0 x1
      rw [hxe] at htk hxs
      have HTK := Aside0.mk htk
      have HXS := Aside0.mk hxs
      have hm : (((rows.take k).filter (fun x : S57 => ofB i x.f0)).map (·.f1)).length ≤ 1000000000 := by
        rw [List.length_map]
        have := List.length_filter_le (fun x : S57 => ofB i x.f0) (rows.take k)
        rw [List.length_take] at this
        omega
      have HM := Aside0.mk hm
      clear hx hxe htk hxs hm
      replace x0 := (HB.out.cell (World.block_lt_of_cell? w _ x0)).trans x0
      replace x1 := (HB.out.cell (World.block_lt_of_cell? w _ x1)).trans x1
      have kk : (k : Int).toNat = k := by omega
      rw [kk] at x0 x1
      clear kk
      have HW2 : Aside0 (Below w.heap.size w (wr.alloc (.cells #[.string x.f0, .string x.f1] 57))) := ⟨HB.out.alloc HB.out.size _⟩
      obtain ⟨q, hq⟩ : ∃ q, ofB i x.f0 = q := ⟨_, rfl⟩
      have HQ := Aside0.mk hq
      clear hq
      have HF : Aside0 (((rows.take (k + 1)).filter (fun x : S57 => ofB i x.f0)).map (·.f1) = ((rows.take k).filter (fun x : S57 => ofB i x.f0)).map (·.f1) ++ if q = true then [x.f1] else []) := ⟨by
        rw [HTK.out, List.filter_append, List.map_append]
        congr 1
        rw [List.filter_cons, HQ.out]
        cases q <;> rfl⟩
      go_wp2_with fail
      refine ((ask_Column g i x.f0 x.f1 _ ((HW2.out.cell (World.block_lt_of_cell? w _ HCAP.out)).trans HCAP.out) HXS.out)).mono ?_
      rintro e w1 ⟨rfl, hb1⟩
      have HB1 : Aside0 (Below w.heap.size w w1) := ⟨HW2.out.trans (hb1.out.mono HW2.out.size)⟩
      have c1 : w1.cell? ⟨wr.heap.size, 1, none⟩ = some (.string x.f1) := (hb1.out.cell (by simp)).trans (cell_blk (blk_new wr _) rfl)
      have HR1 : Aside0 (Kd.R Kd.string 9 w1 w.heap.size (fun _ => True) (.slice Ao m co) (((rows.take k).filter (fun x : S57 => ofB i x.f0)).map (·.f1))) := ⟨Kd.R_below (Kd.R_below HR.out ((Below.refl _ wr).alloc (Nat.le_refl _) _)) hb1.out⟩
      rw [HQ.out]
      clear hb1 HR HQ
      cases q
      · rw [if_neg (by decide), List.append_nil] at HF
        go_wp2
        go_roundw
        case measure => simp [intOf]; omega
        case rel => exact ⟨k + 1, _, _, _, rfl, by go_num, by omega, by rw [HF.out]; exact HR1, HB1⟩
      · rw [if_pos rfl] at HF
        go_wp2_with (first
          | (at_builtin; refine Kd.R_append Kd.string (w0 := w) w.heap.size rfl (.tmp 17) (.tmp 20) 23 9 (.string ⟨#[]⟩) 16 rfl Tryd.underlying23 info9 rfl (by decide) (by decide) (.slice Ao m co) (((rows.take k).filter (fun x : S57 => ofB i x.f0)).map (·.f1)) x.f1 [.string x.f1] (fun _ => True) (fun _ => False) rfl rfl rfl (fun _ h => h.elim) (fun _ _ => trivial) HR1.out HB1.out HB1.out.size (by have := HM.out; omega) ?_; intro v2 w2 ho2 hb2 hg2 hat2; obtain ⟨A2, c2, hv2⟩ := Kd.R_slice ho2; subst hv2; generalize (((rows.take k).filter (fun x : S57 => ofB i x.f0)).map (·.f1) ++ [x.f1]).length = m2 at ho2 ⊢; have HO2 := Aside0.mk ho2; have HB2 := Aside0.mk hb2; clear ho2 hb2 hg2 hat2))
        go_roundw
        case measure => simp [intOf]; omega
        case rel => exact ⟨k + 1, _, _, _, rfl, by go_num, by omega, by rw [HF.out]; exact HO2, HB2⟩
    · have hk' : k = rows.length := by omega
      subst hk'
      rw [List.take_length] at HR
      go_wp2
      go_ret
      exact ⟨_, rfl, HR, HB⟩

theorem table_Column (A : Option Addr) (c : Nat) (rows : List S57) (i : Int) (w : World) (hC : Kd.C k57 w A rows.length rows) (hc : rows.length ≤ c) (hn : rows.length ≤ 1000000000) (hsz : ∀ x ∈ rows, x.f0.size ≤ 1000000000000) :
    Calls Tryd.prog 39 #[.slice A rows.length c, .int .i64 i] w fun e w' => ∃ v, e = .returned v ∧ Aside0 (Kd.R Kd.string 9 w' w.heap.size (fun _ => True) v ((rows.filter (fun x => ofB i x.f0)).map (·.f1))) ∧ Aside0 (Below w.heap.size w w') := by
  have HC := Aside0.mk hC
  have HSZ := Aside0.mk hsz
  clear hC hsz
  have hmf : ∀ (fn : Fn) (first cap : Array Value) (w : World), (Instr.makeFunc fn first cap).run Tryd.prog w = .ok (.func fn first cap) w := fun _ _ _ _ => rfl
  go_enter Tryd.func39, Tryd.ntmps39
  go_wp2_with fail
  refine (texts_Column A c rows w.heap.size i _ (cell_blk (blk_new w (.cells #[.int .i64 i] 3)) rfl) (Kd.C_alloc HC.out _) hc hn HSZ.out).mono ?_
  rintro e w1 ⟨v, rfl, hr, hb⟩
  have HR : Aside0 (Kd.R Kd.string 9 w1 w.heap.size (fun _ => True) v ((rows.filter (fun x => ofB i x.f0)).map (·.f1))) := ⟨Kd.R_lower hr.out (by simp)⟩
  have HB : Aside0 (Below w.heap.size w w1) := ⟨((Below.refl _ w).alloc (Nat.le_refl _) _).trans (hb.out.mono (by simp))⟩
  clear hr hb
  go_wp2
  go_ret
  exact ⟨_, rfl, HR, HB⟩
theorem table_Result (A : Option Addr) (c : Nat) (rows : List S57) (w : World) (hC : Kd.C k57 w A rows.length rows) (hc : rows.length ≤ c) (hn : rows.length ≤ 1000000000) (hsz : ∀ x ∈ rows, x.f0.size ≤ 1000000000000) :
    Calls Tryd.prog 38 #[.slice A rows.length c] w fun e w' => ∃ v, e = .returned v ∧ Aside0 (Kd.R Kd.string 9 w' w.heap.size (fun _ => True) v ((rows.filter (fun x => !lostB x.f0)).map (·.f1))) ∧ Aside0 (Below w.heap.size w w') := by
  have HC := Aside0.mk hC
  have HSZ := Aside0.mk hsz
  clear hC hsz
  go_enter Tryd.func38, Tryd.ntmps38
  go_wp2_with fail
  refine (texts_Result A c rows _ HC.out hc hn HSZ.out).mono ?_
  rintro e w1 ⟨v, rfl, HR, HB⟩
  go_wp2
  go_ret
  exact ⟨_, rfl, HR, HB⟩
def table_Column.f (l0 : List S57) (a1 : Int) : Option (List ByteArray) := if l0.length ≤ 1000000000 ∧ ∀ x ∈ l0, x.f0.size ≤ 1000000000000 then some ((l0.filter (fun x => ofB a1 x.f0)).map (·.f1)) else none
theorem table_Column.calls (A0 : Option Addr) (c0 : Nat) (l0 : List S57) (a1 : Int) (r : List ByteArray) (w : World) (hr0 : Kd.C k57 w A0 l0.length l0) (hc0 : l0.length ≤ c0) (h : table_Column.f l0 a1 = some r) :
    Calls Tryd.prog 39 #[.slice A0 l0.length c0, .int .i64 a1] w fun e w' => ∃ v0_ : Value, e = .returned (v0_) ∧ Kd.R Kd.string 9 w' w.heap.size (fun _ => True) v0_ r ∧ Below w.heap.size w w' := by
  unfold table_Column.f at h
  split at h
  · rename_i hf
    obtain rfl := Option.some.inj h
    exact (table_Column A0 c0 l0 a1 w hr0 hc0 hf.1 hf.2).mono fun e w' ⟨v, he, hr, hb⟩ => ⟨v, he, hr.out, hb.out⟩
  · cases h
def table_Result.f (l0 : List S57) : Option (List ByteArray) := if l0.length ≤ 1000000000 ∧ ∀ x ∈ l0, x.f0.size ≤ 1000000000000 then some ((l0.filter (fun x => !lostB x.f0)).map (·.f1)) else none
theorem table_Result.calls (A0 : Option Addr) (c0 : Nat) (l0 : List S57) (r : List ByteArray) (w : World) (hr0 : Kd.C k57 w A0 l0.length l0) (hc0 : l0.length ≤ c0) (h : table_Result.f l0 = some r) :
    Calls Tryd.prog 38 #[.slice A0 l0.length c0] w fun e w' => ∃ v0_ : Value, e = .returned (v0_) ∧ Kd.R Kd.string 9 w' w.heap.size (fun _ => True) v0_ r ∧ Below w.heap.size w w' := by
  unfold table_Result.f at h
  split at h
  · rename_i hf
    obtain rfl := Option.some.inj h
    exact (table_Result A0 c0 l0 w hr0 hc0 hf.1 hf.2).mono fun e w' ⟨v, he, hr, hb⟩ => ⟨v, he, hr.out, hb.out⟩
  · cases h
end Go.Proofs.YthcnfflhejogfaaDoor.X
-- part XMay
namespace Go.Proofs.YthcnfflhejogfaaDoor.X
open Go.RowKit Go.Proofs.YthcnfflhejogfaaDoorW.PrintWords Go.Proofs.YthcnfflhejogfaaDoorW.PrintLast Go.Proofs.YthcnfflhejogfaaDoorW.PrintMore
set_option linter.unusedVariables false
set_option linter.unusedSimpArgs false
/-- May a text be a line: ended, or not. -/
def lineClosed (s : ByteArray) : Bool := decide (0 ≤ Lib.indexByte s.data.toList 10 ∧ Lib.indexByte s.data.toList 10 = (s.size : Int) - 1)
def lineOpen (s : ByteArray) : Bool := decide (Lib.indexByte s.data.toList 10 < 0 ∧ 0 < s.size)
def mayL : List ByteArray → Bool
  | [] => true
  | s :: t => (lineClosed s || (lineOpen s && t.isEmpty)) && mayL t
theorem may_l0 (l : List ByteArray) (hl : l.length ≤ 1000000000000) (hz : ∀ s ∈ l, s.size ≤ 1000000000000000) : ∀ (r i : Nat), i + r = l.length → Gives (fun k => lines_May.l0 k l l (l.length : Int) (i : Int)) (mayL (l.drop i))
  | 0, i, hi => Gives.of fun k => by
    show lines_May.l0 (k + 1) l l (l.length : Int) (i : Int) = _
    rw [lines_May.l0, if_neg (by omega), List.drop_of_length_le (by omega)]
    rfl
  | r + 1, i, hi => by
    have hil : i < l.length := by omega
    have hzi := hz l[i] (List.getElem_mem _)
    have ih := may_l0 l hl hz r (i + 1) (by omega)
    have e : ∀ k, lines_May.l0 (k + 1) l l (l.length : Int) (i : Int) = if Lib.indexByte l[i].data.toList 10 < 0 then (if (l[i].size : Int) > 0 then (if (i : Int) = (l.length : Int) - 1 then lines_May.l0 k l l (l.length : Int) ((i + 1 : Nat) : Int) else some false) else some false) else (if Lib.indexByte l[i].data.toList 10 = (l[i].size : Int) - 1 then lines_May.l0 k l l (l.length : Int) ((i + 1 : Nat) : Int) else some false) := fun k => by
      rw [lines_May.l0, if_pos (by omega), if_pos (by omega), if_pos (by omega), rdOfN hil, gw1 (by omega), gw (by omega) (by omega), gw (by omega) (by omega)]
      rfl
    have hle : ((l.drop (i + 1)).isEmpty = true) ↔ i + 1 = l.length := by
      rw [List.isEmpty_iff, List.drop_eq_nil_iff]; omega
    rw [dropCons hil, mayL]
    by_cases h1 : Lib.indexByte l[i].data.toList 10 < 0
    · have hc : lineClosed l[i] = false := decide_eq_false (by omega)
      rw [hc, Bool.false_or]
      by_cases h2 : 0 < l[i].size
      · have ho : lineOpen l[i] = true := decide_eq_true ⟨h1, h2⟩
        rw [ho, Bool.true_and]
        by_cases h3 : i + 1 = l.length
        · rw [hle.2 h3, Bool.true_and]
          exact ih.step fun k => by
            show lines_May.l0 (k + 1) l l (l.length : Int) (i : Int) = _
            rw [e k, if_pos h1, if_pos (by omega), if_pos (by omega)]
        · have : (l.drop (i + 1)).isEmpty = false := by
            cases hh : (l.drop (i + 1)).isEmpty
            · rfl
            · exact absurd (hle.1 hh) h3
          rw [this, Bool.false_and]
          exact Gives.of fun k => by
            show lines_May.l0 (k + 1) l l (l.length : Int) (i : Int) = _
            rw [e k, if_pos h1, if_pos (by omega), if_neg (by omega)]
      · have ho : lineOpen l[i] = false := decide_eq_false (by omega)
        rw [ho, Bool.false_and, Bool.false_and]
        exact Gives.of fun k => by
          show lines_May.l0 (k + 1) l l (l.length : Int) (i : Int) = _
          rw [e k, if_pos h1, if_neg (by omega)]
    · have ho : lineOpen l[i] = false := decide_eq_false (by omega)
      rw [ho, Bool.false_and, Bool.or_false]
      by_cases h2 : Lib.indexByte l[i].data.toList 10 = (l[i].size : Int) - 1
      · have hc : lineClosed l[i] = true := decide_eq_true ⟨by omega, h2⟩
        rw [hc, Bool.true_and]
        exact ih.step fun k => by
          show lines_May.l0 (k + 1) l l (l.length : Int) (i : Int) = _
          rw [e k, if_neg h1, if_pos h2]
      · have hc : lineClosed l[i] = false := decide_eq_false (by omega)
        rw [hc, Bool.false_and]
        exact Gives.of fun k => by
          show lines_May.l0 (k + 1) l l (l.length : Int) (i : Int) = _
          rw [e k, if_neg h1, if_neg h2]
theorem may_gives (l : List ByteArray) (hl : l.length ≤ 1000000000000) (hz : ∀ s ∈ l, s.size ≤ 1000000000000000) : Gives (fun k => lines_May.f k l) (mayL l) :=
  (may_l0 l hl hz l.length 0 (by omega)).same fun k => rfl
end Go.Proofs.YthcnfflhejogfaaDoor.X
-- part XHr0
namespace Go.Proofs.YthcnfflhejogfaaDoor.X
open Go.RowKit Go.Proofs.YthcnfflhejogfaaDoorW.PrintWords Go.Proofs.YthcnfflhejogfaaDoorW.PrintLast Go.Proofs.YthcnfflhejogfaaDoorW.PrintMore
set_option linter.unusedVariables false
set_option linter.unusedSimpArgs false
theorem byte10 (c : UInt8) : ((c.toNat : Int) = 10) ↔ c = 10 := by
  constructor
  · intro h
    have : c.toNat = 10 := by omega
    exact UInt8.toNat_inj.1 this
  · rintro rfl; rfl
theorem index10 (u : List UInt8) : (¬ (10 : UInt8) ∈ u ∧ Lib.indexByte u 10 = -1) ∨ (∃ a b, u = a ++ 10 :: b ∧ ¬ (10 : UInt8) ∈ a ∧ Lib.indexByte u 10 = (a.length : Int)) := by
  induction u with
  | nil => left; simp [Lib.indexByte]
  | cons x xs ih =>
    simp only [Lib.indexByte]
    by_cases e : x = 10
    · right; exact ⟨[], xs, by rw [e]; rfl, by simp, by simp [e]⟩
    · have e' : (x == 10) = false := by simp [e]
      have e2 : ¬ (10 : UInt8) = x := fun h => e h.symm
      rw [e']
      rcases ih with ⟨h1, h2⟩ | ⟨a, b, h0, h1, h2⟩
      · left; simp [h1, h2, e2]
      · right
        refine ⟨x :: a, b, by rw [h0]; rfl, by simp [e2, h1], ?_⟩
        rw [if_neg (by decide), if_neg (by simp; omega), h2]
        simp
theorem closed_eq (s : ByteArray) : lineClosed s = (decide (s.data.toList.count 10 = 1) && decide (s.data.toList.getLast? = some 10)) := by
  have hs := sizeLen s
  rw [lineClosed, ← Bool.decide_and, decide_eq_decide]
  rcases index10 s.data.toList with ⟨h1, h2⟩ | ⟨a, b, h0, h1, h2⟩
  · rw [h2, List.count_eq_zero.2 h1]; omega
  · rw [h2, hs, h0, List.count_append, List.count_eq_zero.2 h1, List.count_cons_self, List.length_append, List.length_cons]
    cases b with
    | nil => simp
    | cons y t =>
      rw [List.getLast?_append, List.getLast?_cons_cons]
      constructor
      · intro ⟨_, h⟩; rw [List.length_cons] at h; omega
      · rintro ⟨h3, h4⟩
        have h5 : (y :: t).getLast? = some 10 := by
          cases hg : (y :: t).getLast? with
          | none => simp at hg
          | some z => rw [hg] at h4; exact h4
        have := List.count_pos_iff.2 (List.mem_of_getLast? h5)
        omega
theorem open_eq (s : ByteArray) : lineOpen s = (decide (0 < s.size) && decide (s.data.toList.count 10 = 0)) := by
  rw [lineOpen, ← Bool.decide_and, decide_eq_decide, List.count_eq_zero]
  rcases index10 s.data.toList with ⟨h1, h2⟩ | ⟨a, b, h0, h1, h2⟩
  · rw [h2]; simp [h1]
  · rw [h2]
    have : (10 : UInt8) ∈ s.data.toList := by rw [h0]; simp
    constructor
    · rintro ⟨h, _⟩; omega
    · rintro ⟨_, h⟩; exact absurd this h
theorem ref_feeds_l0 (s : ByteArray) (hs : s.size ≤ 1000000000) : ∀ (r i k : Nat) (n : Nat), i + r = s.size → n ≤ i → r + 1 ≤ k → sennitref01_feeds.l0 k s (n : Int) (i : Int) = some (((n + (s.data.toList.drop i).count 10 : Nat) : Int))
  | 0, i, k + 1, n, hi, hn, _ => by
    rw [sennitref01_feeds.l0, if_neg (by omega), List.drop_of_length_le (by rw [← sizeLen]; omega)]
    simp
  | r + 1, i, k + 1, n, hi, hn, hk => by
    have hd := dropCons (l := s.data.toList) (i := i) (by rw [← sizeLen]; omega)
    rw [sennitref01_feeds.l0, if_pos (by omega), if_pos (by omega), btN (by omega), hd]
    obtain ⟨c, hc⟩ : ∃ c, s.data.toList[i]'(by rw [← sizeLen]; omega) = c := ⟨_, rfl⟩
    rw [hc, gw1 (i := i) (by omega), gw1 (i := n) (by omega)]
    by_cases e : c = 10
    · rw [if_pos ((byte10 c).2 e), e, List.count_cons_self, ref_feeds_l0 s hs r (i + 1) k (n + 1) (by omega) (by omega) (by omega)]
      congr 1; omega
    · rw [if_neg (fun h => e ((byte10 c).1 h)), List.count_cons_of_ne e, ref_feeds_l0 s hs r (i + 1) k n (by omega) (by omega) (by omega)]
theorem ref_feeds (s : ByteArray) (hs : s.size ≤ 1000000000) (k : Nat) (hk : s.size + 1 ≤ k) : sennitref01_feeds.f k s = some ((s.data.toList.count 10 : Nat) : Int) := by
  have := ref_feeds_l0 s hs s.size 0 k 0 (by omega) (by omega) hk
  simpa [sennitref01_feeds.f] using this
theorem last_idx (s : ByteArray) (h : 0 < s.size) : s.data.toList.getLast? = some (s.data.toList[s.size - 1]'(by rw [← sizeLen]; omega)) := by
  rw [List.getLast?_eq_getElem?, List.getElem?_eq_getElem (by simp at h ⊢; omega)]
  simp
theorem ref_line (s : ByteArray) (hs : s.size ≤ 1000000000) (k : Nat) (hk : s.size + 1 ≤ k) : sennitref01_Line.f k s = some (lineClosed s) := by
  rw [sennitref01_Line.f, ref_feeds s hs k hk, Option.bind_some, closed_eq]
  by_cases h1 : s.data.toList.count 10 = 1
  · have hp : 0 < s.size := by
      rw [sizeLen]
      exact List.length_pos_iff.2 (fun e => by rw [e] at h1; simp at h1)
    have ew : wrap64 ((s.size : Int) - 1) = ((s.size - 1 : Nat) : Int) := by rw [gw (by omega) (by omega)]; omega
    rw [if_pos (by omega), ew, if_pos (by omega), if_pos (by omega), btN (by omega), last_idx s hp]
    congr 1
    rw [decide_eq_true h1, Bool.true_and, Bool.eq_iff_iff]
    simp only [beq_iff_eq, decide_eq_true_eq, Option.some.injEq, byte10]
  · rw [if_neg (by omega), decide_eq_false h1]
    rfl
theorem ref_may_l0 (l : List ByteArray) (hl : l.length ≤ 1000000) (M : Nat) (hM : M ≤ 1000000) (hs : ∀ s ∈ l, s.size ≤ M) : ∀ (r i k : Nat), i + r = l.length → r + M + 2 ≤ k → sennitref01_May.l0 k l (i : Int) = some (mayL (l.drop i))
  | 0, i, k + 1, hi, _ => by
    rw [sennitref01_May.l0, if_neg (by omega), List.drop_of_length_le (by omega)]
    rfl
  | r + 1, i, k + 1, hi, hk => by
    have hil : i < l.length := by omega
    have hd := dropCons hil
    have hz : l[i].size ≤ M := hs _ (List.getElem_mem _)
    have ih := ref_may_l0 l hl M hM hs r (i + 1) k (by omega) (by omega)
    have hln := ref_line l[i] (by omega) k (by omega)
    have hfd := ref_feeds l[i] (by omega) k (by omega)
    rw [sennitref01_May.l0, if_pos (by omega), rdOfN hil, gw1 (by omega), gw (x := (l.length : Int) - 1) (by omega) (by omega), hln, hfd, ih, hd]
    have hm : mayL (l[i] :: l.drop (i + 1)) = ((lineClosed l[i] || ((decide (0 < l[i].size) && decide (l[i].data.toList.count 10 = 0)) && (l.drop (i + 1)).isEmpty)) && mayL (l.drop (i + 1))) := by
      rw [mayL, open_eq]
    have hnil : ((l.drop (i + 1)).isEmpty = true) ↔ ((i : Int) = (l.length : Int) - 1) := by
      rw [List.isEmpty_iff, List.drop_eq_nil_iff]; omega
    rw [hm]
    obtain ⟨m, hm⟩ : ∃ m, mayL (l.drop (i + 1)) = m := ⟨_, rfl⟩
    obtain ⟨c, hc⟩ : ∃ c, lineClosed l[i] = c := ⟨_, rfl⟩
    rw [hm, hc]
    simp only [Option.bind_some]
    clear hm hln hfd ih hd hc
    by_cases e1 : (i : Int) = (l.length : Int) - 1
    · rw [if_pos e1, if_pos (by omega), hnil.2 e1, Bool.and_true]
      by_cases e2 : 0 < l[i].size
      · rw [if_pos (by omega), decide_eq_true e2, Bool.true_and]
        by_cases e3 : l[i].data.toList.count 10 = 0
        · rw [if_pos (by omega), decide_eq_true e3]
          cases c <;> cases m <;> rfl
        · rw [if_neg (by omega), decide_eq_false e3]
          cases c <;> cases m <;> rfl
      · rw [if_neg (by omega), decide_eq_false e2]
        cases c <;> cases m <;> rfl
    · have : (l.drop (i + 1)).isEmpty = false := by
        cases hh : (l.drop (i + 1)).isEmpty
        · rfl
        · exact absurd (hnil.1 hh) e1
      rw [if_neg e1, if_pos (by omega), this, Bool.and_false]
      cases c <;> cases m <;> rfl
theorem ref_May01 (l : List ByteArray) (hl : l.length ≤ 1000000) (hs : ∀ s ∈ l, s.size ≤ 1000000) : Gives (fun k => sennitref01_May.f k l) (mayL l) :=
  ⟨l.length + 1000000 + 2, fun k hk => by
    have := ref_may_l0 l hl 1000000 (Nat.le_refl _) hs l.length 0 k (by omega) hk
    simpa [sennitref01_May.f] using this⟩

end Go.Proofs.YthcnfflhejogfaaDoor.X
-- part XTrim
namespace Go.Proofs.YthcnfflhejogfaaDoor.X
open Go.RowKit Go.Proofs.YthcnfflhejogfaaDoorW.PrintWords Go.Proofs.YthcnfflhejogfaaDoorW.PrintLast Go.Proofs.YthcnfflhejogfaaDoorW.PrintMore
set_option linter.unusedVariables false
set_option linter.unusedSimpArgs false
def strings_Trim.f (a0 a1 : ByteArray) : Option ByteArray := if a0.size ≤ 9223372036854775807 ∧ a1.size < 1000 ∧ a1.data.toList.all (fun b => decide (b.toNat < 128)) = true then some ⟨(Lib.trimS a0.data.toList a1.data.toList).toArray⟩ else none
theorem strings_Trim.calls (a0 a1 : ByteArray) (r : ByteArray) (w : World) (h : strings_Trim.f a0 a1 = some r) : Calls Tryd.prog 64 #[.string a0, .string a1] w fun e w' => e = .returned (.string r) ∧ Below w.heap.size w w' := by
  unfold strings_Trim.f at h
  split at h
  · rename_i hc
    obtain ⟨h1, h2, h3⟩ := hc
    have h := Option.some.inj h
    subst h
    exact Any.strings_Trim_laid Tryd.lays160 (by kernel_rfl) a0 a1 w h1 (by omega) (ascii_of_all h3)
  · cases h
end Go.Proofs.YthcnfflhejogfaaDoor.X
