/-
  Parts of one proof, one behind the other: X0, XPre, XRn6, XRn1, XRn2, XEn1, XAn1, XRn7, XKit, XHeld, XBlk, XInternMath, XLcsMath, XPairMath, XGives, XConcatS, XConcat, XDiffer, XPick1.
-/
import Derived.Test.YtbbhdbeaikclcaaGreatBFoldGoes3
import Derived.Test.YtbbhdbeaikclcaaGreatProg
import Derived.Below
import Derived.Deep.Draws
import Derived.Deep.AppendLies
import Derived.Maps.AppendAt
import Derived.OwnWalk
import Derived.Laws.BytesArg
import Derived.Laws.MakeOwn
import Derived.Laws.OwnMore
import Derived.Deep.OwnRows
import Derived.Tactics
import Derived.Lib.ConvBytes
import Derived.Laws.Slices
import Derived.WalkKit
import Derived.KernelRfl
import Derived.RowKit3
import Derived.Deep.LoopGhost
import Derived.Deep.QuietTactic
import Derived.BigQuiet
import Derived.WideLaws
import Derived.Deep.DeepCutAuto
import Derived.Deep.CutBlock
import Derived.Deep.RegionHeld3
import Derived.Laws.Rows
import Derived.Lib.AppendStr
import Derived.ArgAppend
import Derived.Laws.IdiomCopy
import Derived.OrdersHeld
import Derived.Laws.BitsLemmas
import Derived.RowKit
import Derived.IntWalk
import Derived.Lib.Strings
import Derived.BigRegion
import Derived.WalkMore
import Derived.Handy
-- part X0
namespace Go.Proofs.YtbbhdbeaikclcaaGreat.X
open Go.RowKit Go.Proofs.YtbbhdbeaikclcaaGreatW.PrintWords Go.Proofs.YtbbhdbeaikclcaaGreatW.PrintLast Go.Proofs.YtbbhdbeaikclcaaGreatW.PrintMore
attribute [local go_sem] max2_int min2_int max_two min_two max_three min_three max_four min_four   -- for this text's walks alone
set_option linter.unusedVariables false
set_option linter.unusedSimpArgs false
def errW : Option Int → Value
  | none => .nilIface
  | some c => .iface 0 (.int .i64 c)
theorem errW_none : errW none = .nilIface := rfl
theorem errW_some (c : Int) : errW (some c) = .iface 0 (.int .i64 c) := rfl

theorem info3 : (Tryz.prog.info? 3).map (fun i => (i.zero, i.size, i.bytes)) = some (some (.int .i64 0), 1, 8) := by kernel_rfl
theorem info5 : (Tryz.prog.info? 5).map (fun i => (i.zero, i.size, i.bytes)) = some (some (.int .u8 0), 1, 1) := by kernel_rfl
theorem info9 : (Tryz.prog.info? 9).map (fun i => (i.zero, i.size, i.bytes)) = some (some (.string ⟨#[]⟩), 1, 16) := by kernel_rfl
theorem info22 : (Tryz.prog.info? 22).map (fun i => (i.zero, i.size, i.bytes)) = some (some (.slice none 0 0), 1, 24) := by kernel_rfl
theorem info45 : (Tryz.prog.info? 45).map (fun i => (i.zero, i.size, i.bytes)) = some (some (.agg #[(.int .i64 0), (.int .i64 0)]), 2, 16) := by kernel_rfl
theorem info48 : (Tryz.prog.info? 48).map (fun i => (i.zero, i.size, i.bytes)) = some (some (.agg #[(.bool false), (.int .i64 0), (.int .i64 0), (.slice none 0 0)]), 4, 48) := by kernel_rfl
theorem info66 : (Tryz.prog.info? 66).map (fun i => (i.zero, i.size, i.bytes)) = some (some (.agg #[(.bool false), (.slice none 0 0), (.slice none 0 0), (.slice none 0 0)]), 4, 80) := by kernel_rfl
theorem info72 : (Tryz.prog.info? 72).map (fun i => (i.zero, i.size, i.bytes)) = some (some (.slice none 0 0), 1, 24) := by kernel_rfl
def rd_L1 (xs : List (List ByteArray)) (i : Int) : (List ByteArray) := xs.getD i.toNat ([] : List ByteArray)
theorem at_L1 {w : World} {A : Option Addr} {n : Nat} {xs : List (List ByteArray)} (h : Kd.C (Kd.slice 9 Kd.string) w A n xs) (i : Int) (h0 : 0 ≤ i) (h1 : i < n) : ∃ ad A0 c0, A = some ad ∧ w.cell? (ad.add i.toNat) = some (.slice A0 (rd_L1 xs i).length c0) ∧ (rd_L1 xs i).length ≤ c0 ∧ Kd.string.C w A0 (rd_L1 xs i).length (rd_L1 xs i) := by
  obtain ⟨ad, c, e, _, hK, hc0⟩ := Kd.C_get h ([] : List ByteArray) i h0 h1
  have hc : ∀ j u, c[j]? = some u → w.cell? (ad.add (i.toNat * 1 + j)) = some u := hc0
  obtain ⟨A0, c0, rfl, l0, g0⟩ := hK
  exact ⟨ad, A0, c0, e, by have hq := hc 0 _ rfl; rwa [Nat.mul_one, Nat.add_zero] at hq, l0, g0⟩

structure S45 where
  f0 : Int
  f1 : Int
def z45 : S45 := ⟨(0 : Int), (0 : Int)⟩
def k45 : Kd S45 := Kd.iso (Kd.pair (Kd.int .i64) (Kd.int .i64)) (fun x : S45 => (x.f0, x.f1))
theorem k45_open {w : World} {x : S45} {cs : List Value} (h : k45.K w x cs) : cs = [.int .i64 x.f0, .int .i64 x.f1] := by
  obtain ⟨_, _, rfl, rfl, rfl⟩ := h
  exact rfl
theorem k45_mkM (w : World) (base : Nat) (ok : Nat → Prop) (x : S45)  : k45.M w base ok x [.int .i64 x.f0, .int .i64 x.f1] := ⟨[.int .i64 x.f0], [.int .i64 x.f1], rfl, rfl, rfl⟩
def rd_T45 (xs : List S45) (i : Int) : S45 := xs.getD i.toNat z45
theorem at_T45 {w : World} {A : Option Addr} {n : Nat} {xs : List S45} (h : Kd.C k45 w A n xs) (i : Int) (h0 : 0 ≤ i) (h1 : i < n) : ∃ ad , A = some ad ∧ w.cell? (ad.add (i.toNat * 2)) = some (.int .i64 (rd_T45 xs i).f0) ∧ w.cell? ⟨(ad.add (i.toNat * 2)).block, (ad.add (i.toNat * 2)).off + 1, none⟩ = some (.int .i64 (rd_T45 xs i).f1) := by
  obtain ⟨ad, c, e, _, hK, hc0⟩ := Kd.C_get h z45 i h0 h1
  have hc : ∀ j u, c[j]? = some u → w.cell? (ad.add (i.toNat * 2 + j)) = some u := hc0
  obtain rfl := k45_open hK
  exact ⟨ad, e, hc 0 _ rfl, by rw [← add_field _ _ 1 (by omega)]; exact hc 1 _ rfl⟩

structure S48 where
  f0 : Bool
  f1 : S45
  f2 : (List S45)
def z48 : S48 := ⟨false, z45, ([] : List S45)⟩
def k48 : Kd S48 := Kd.iso (Kd.pair Kd.bool (Kd.pair k45 (Kd.slice 45 k45))) (fun x : S48 => (x.f0, x.f1, x.f2))
theorem k48_open {w : World} {x : S48} {cs : List Value} (h : k48.K w x cs) : ∃ A3 c3, cs = [.bool x.f0, .int .i64 x.f1.f0, .int .i64 x.f1.f1, .slice A3 x.f2.length c3] ∧ x.f2.length ≤ c3 ∧ k45.C w A3 x.f2.length x.f2 := by
  obtain ⟨_, _, rfl, rfl, ⟨_, _, rfl, s1, ⟨A3, c3, rfl, l3, g3⟩⟩⟩ := h
  obtain rfl := k45_open s1
  exact ⟨A3, c3, rfl, l3, g3⟩
theorem k48_mkM (w : World) (base : Nat) (ok : Nat → Prop) (x : S48) {v3 : Value} (g3 : k45.R 45 w base ok v3 x.f2) : k48.M w base ok x [.bool x.f0, .int .i64 x.f1.f0, .int .i64 x.f1.f1, v3] := ⟨[.bool x.f0], [.int .i64 x.f1.f0, .int .i64 x.f1.f1, v3], rfl, rfl, ⟨[.int .i64 x.f1.f0, .int .i64 x.f1.f1], [v3], rfl, (k45_mkM w base ok x.f1 ), ⟨v3, rfl, g3⟩⟩⟩
def rd_T48 (xs : List S48) (i : Int) : S48 := xs.getD i.toNat z48
theorem at_T48 {w : World} {A : Option Addr} {n : Nat} {xs : List S48} (h : Kd.C k48 w A n xs) (i : Int) (h0 : 0 ≤ i) (h1 : i < n) : ∃ ad A3 c3, A = some ad ∧ w.cell? (ad.add (i.toNat * 4)) = some (.bool (rd_T48 xs i).f0) ∧ w.cell? ⟨(ad.add (i.toNat * 4)).block, (ad.add (i.toNat * 4)).off + 1, none⟩ = some (.int .i64 (rd_T48 xs i).f1.f0) ∧ w.cell? ⟨(ad.add (i.toNat * 4)).block, (ad.add (i.toNat * 4)).off + 2, none⟩ = some (.int .i64 (rd_T48 xs i).f1.f1) ∧ w.cell? ⟨(ad.add (i.toNat * 4)).block, (ad.add (i.toNat * 4)).off + 3, none⟩ = some (.slice A3 (rd_T48 xs i).f2.length c3) ∧ (rd_T48 xs i).f2.length ≤ c3 ∧ k45.C w A3 (rd_T48 xs i).f2.length (rd_T48 xs i).f2 := by
  obtain ⟨ad, c, e, _, hK, hc0⟩ := Kd.C_get h z48 i h0 h1
  have hc : ∀ j u, c[j]? = some u → w.cell? (ad.add (i.toNat * 4 + j)) = some u := hc0
  obtain ⟨A3, c3, rfl, l3, g3⟩ := k48_open hK
  exact ⟨ad, A3, c3, e, hc 0 _ rfl, by rw [← add_field _ _ 1 (by omega)]; exact hc 1 _ rfl, by rw [← add_field _ _ 2 (by omega)]; exact hc 2 _ rfl, by rw [← add_field _ _ 3 (by omega)]; exact hc 3 _ rfl, l3, g3⟩

structure S66 where
  f0 : Bool
  f1 : (List ByteArray)
  f2 : (List ByteArray)
  f3 : (List (List ByteArray))
def z66 : S66 := ⟨false, ([] : List ByteArray), ([] : List ByteArray), ([] : List (List ByteArray))⟩
def k66 : Kd S66 := Kd.iso (Kd.pair Kd.bool (Kd.pair (Kd.slice 9 Kd.string) (Kd.pair (Kd.slice 9 Kd.string) (Kd.slice 22 (Kd.slice 9 Kd.string))))) (fun x : S66 => (x.f0, x.f1, x.f2, x.f3))
theorem k66_open {w : World} {x : S66} {cs : List Value} (h : k66.K w x cs) : ∃ A1 c1 A2 c2 A3 c3, cs = [.bool x.f0, .slice A1 x.f1.length c1, .slice A2 x.f2.length c2, .slice A3 x.f3.length c3] ∧ x.f1.length ≤ c1 ∧ Kd.string.C w A1 x.f1.length x.f1 ∧ x.f2.length ≤ c2 ∧ Kd.string.C w A2 x.f2.length x.f2 ∧ x.f3.length ≤ c3 ∧ (Kd.slice 9 Kd.string).C w A3 x.f3.length x.f3 := by
  obtain ⟨_, _, rfl, rfl, ⟨_, _, rfl, ⟨A1, c1, rfl, l1, g1⟩, ⟨_, _, rfl, ⟨A2, c2, rfl, l2, g2⟩, ⟨A3, c3, rfl, l3, g3⟩⟩⟩⟩ := h
  exact ⟨A1, c1, A2, c2, A3, c3, rfl, l1, g1, l2, g2, l3, g3⟩
theorem k66_mk (w : World) (x : S66) {A1 : Option Addr} {c1 : Nat} (l1 : x.f1.length ≤ c1) (g1 : Kd.string.C w A1 x.f1.length x.f1) {A2 : Option Addr} {c2 : Nat} (l2 : x.f2.length ≤ c2) (g2 : Kd.string.C w A2 x.f2.length x.f2) {A3 : Option Addr} {c3 : Nat} (l3 : x.f3.length ≤ c3) (g3 : (Kd.slice 9 Kd.string).C w A3 x.f3.length x.f3) : k66.K w x [.bool x.f0, .slice A1 x.f1.length c1, .slice A2 x.f2.length c2, .slice A3 x.f3.length c3] := ⟨[.bool x.f0], [.slice A1 x.f1.length c1, .slice A2 x.f2.length c2, .slice A3 x.f3.length c3], rfl, rfl, ⟨[.slice A1 x.f1.length c1], [.slice A2 x.f2.length c2, .slice A3 x.f3.length c3], rfl, ⟨A1, c1, rfl, l1, g1⟩, ⟨[.slice A2 x.f2.length c2], [.slice A3 x.f3.length c3], rfl, ⟨A2, c2, rfl, l2, g2⟩, ⟨A3, c3, rfl, l3, g3⟩⟩⟩⟩
theorem k66_openF {W : World} {ok : Nat → Prop} {x : S66} {cs : List Value} (h : Kd.FK k66 W ok x cs) : ∃ A1 c1 A2 c2 A3 c3, cs = [.bool x.f0, .slice A1 x.f1.length c1, .slice A2 x.f2.length c2, .slice A3 x.f3.length c3] ∧ x.f1.length ≤ c1 ∧ Kd.F Kd.string W ok A1 x.f1.length x.f1 ∧ x.f2.length ≤ c2 ∧ Kd.F Kd.string W ok A2 x.f2.length x.f2 ∧ x.f3.length ≤ c3 ∧ Kd.F (Kd.slice 9 Kd.string) W ok A3 x.f3.length x.f3 := by
  obtain ⟨A1, c1, A2, c2, A3, c3, rfl, l1, _, l2, _, l3, _⟩ := k66_open (Kd.FK_now h)
  exact ⟨A1, c1, A2, c2, A3, c3, rfl, l1, (fun W' hW => by obtain ⟨A1_, c1_, A2_, c2_, A3_, c3_, he, l1_, g1_, l2_, g2_, l3_, g3_⟩ := k66_open (h W' hW); injection (Option.some.inj (show some (Value.slice A1 x.f1.length c1) = some (Value.slice A1_ x.f1.length c1_) from congrArg (fun l => l[1]?) he)) with ha_ _ _; rw [ha_]; exact g1_), l2, (fun W' hW => by obtain ⟨A1_, c1_, A2_, c2_, A3_, c3_, he, l1_, g1_, l2_, g2_, l3_, g3_⟩ := k66_open (h W' hW); injection (Option.some.inj (show some (Value.slice A2 x.f2.length c2) = some (Value.slice A2_ x.f2.length c2_) from congrArg (fun l => l[2]?) he)) with ha_ _ _; rw [ha_]; exact g2_), l3, (fun W' hW => by obtain ⟨A1_, c1_, A2_, c2_, A3_, c3_, he, l1_, g1_, l2_, g2_, l3_, g3_⟩ := k66_open (h W' hW); injection (Option.some.inj (show some (Value.slice A3 x.f3.length c3) = some (Value.slice A3_ x.f3.length c3_) from congrArg (fun l => l[3]?) he)) with ha_ _ _; rw [ha_]; exact g3_)⟩
theorem k66_mkF (W : World) (ok : Nat → Prop) (x : S66) {A1 : Option Addr} {c1 : Nat} (l1 : x.f1.length ≤ c1) (g1 : Kd.F Kd.string W ok A1 x.f1.length x.f1) {A2 : Option Addr} {c2 : Nat} (l2 : x.f2.length ≤ c2) (g2 : Kd.F Kd.string W ok A2 x.f2.length x.f2) {A3 : Option Addr} {c3 : Nat} (l3 : x.f3.length ≤ c3) (g3 : Kd.F (Kd.slice 9 Kd.string) W ok A3 x.f3.length x.f3) : Kd.FK k66 W ok x [.bool x.f0, .slice A1 x.f1.length c1, .slice A2 x.f2.length c2, .slice A3 x.f3.length c3] := fun W2 hW => k66_mk W2 x l1 (g1 W2 hW) l2 (g2 W2 hW) l3 (g3 W2 hW)
def rd_T66 (xs : List S66) (i : Int) : S66 := xs.getD i.toNat z66
theorem at_T66 {w : World} {A : Option Addr} {n : Nat} {xs : List S66} (h : Kd.C k66 w A n xs) (i : Int) (h0 : 0 ≤ i) (h1 : i < n) : ∃ ad A1 c1 A2 c2 A3 c3, A = some ad ∧ w.cell? (ad.add (i.toNat * 4)) = some (.bool (rd_T66 xs i).f0) ∧ w.cell? ⟨(ad.add (i.toNat * 4)).block, (ad.add (i.toNat * 4)).off + 1, none⟩ = some (.slice A1 (rd_T66 xs i).f1.length c1) ∧ w.cell? ⟨(ad.add (i.toNat * 4)).block, (ad.add (i.toNat * 4)).off + 2, none⟩ = some (.slice A2 (rd_T66 xs i).f2.length c2) ∧ w.cell? ⟨(ad.add (i.toNat * 4)).block, (ad.add (i.toNat * 4)).off + 3, none⟩ = some (.slice A3 (rd_T66 xs i).f3.length c3) ∧ (rd_T66 xs i).f1.length ≤ c1 ∧ Kd.string.C w A1 (rd_T66 xs i).f1.length (rd_T66 xs i).f1 ∧ (rd_T66 xs i).f2.length ≤ c2 ∧ Kd.string.C w A2 (rd_T66 xs i).f2.length (rd_T66 xs i).f2 ∧ (rd_T66 xs i).f3.length ≤ c3 ∧ (Kd.slice 9 Kd.string).C w A3 (rd_T66 xs i).f3.length (rd_T66 xs i).f3 := by
  obtain ⟨ad, c, e, _, hK, hc0⟩ := Kd.C_get h z66 i h0 h1
  have hc : ∀ j u, c[j]? = some u → w.cell? (ad.add (i.toNat * 4 + j)) = some u := hc0
  obtain ⟨A1, c1, A2, c2, A3, c3, rfl, l1, g1, l2, g2, l3, g3⟩ := k66_open hK
  exact ⟨ad, A1, c1, A2, c2, A3, c3, e, hc 0 _ rfl, by rw [← add_field _ _ 1 (by omega)]; exact hc 1 _ rfl, by rw [← add_field _ _ 2 (by omega)]; exact hc 2 _ rfl, by rw [← add_field _ _ 3 (by omega)]; exact hc 3 _ rfl, l1, g1, l2, g2, l3, g3⟩

theorem eqA45 (d : Nat) (w : World) (x0 y0 : Int) (x1 y1 : Int) :
    (Op.equalIn (d + 2) 45 (.agg #[.int .i64 x0, .int .i64 x1]) (.agg #[.int .i64 y0, .int .i64 y1])).run Tryz.prog w = .ok (x0 == y0 && (x1 == y1)) w := by
  refine eqA_of Tryz.underlying45 (by kernel_rfl) ?_
  refine eqf_cons (by rfl) (by go_simp; rfl) (by go_simp; rfl) (by go_simp) ?_
  exact eqf_last (by rfl) (by go_simp; rfl) (by go_simp; rfl) (by go_simp)
end Go.Proofs.YtbbhdbeaikclcaaGreat.X
-- part XPre
namespace Go.Proofs.YtbbhdbeaikclcaaGreat.X
open Go.RowKit Go.Proofs.YtbbhdbeaikclcaaGreatW.PrintWords
/-- A block whose cells are numbers, as a row of one's own. -/
theorem R_int_of_cells {k : IntKind} {W : World} {g base : Nat} {e : TypeId} {xs : List Int} (h : W.heap[g]? = some (.cells (xs.map (Value.int k)).toArray e (0, 0))) (hb : base ≤ g) (hl : xs.length ≤ maxLen) :
    Kd.R (Kd.int k) e W base (fun _ => True) (.slice (some ⟨g, 0, none⟩) xs.length xs.length) xs := by
  refine ⟨fun _ _ => trivial, xs.map (Value.int k), ⟨by simp [Kd.int, Kd.scalar], .inr ⟨g, xs.length, _, rfl, hb, h, Nat.le_refl _, hl, by simp [Kd.int, Kd.scalar], by simp [Kd.int, Kd.scalar, List.take_of_length_le]⟩⟩, by simp [Kd.int, Kd.scalar], fun j p hj => ?_⟩
  obtain ⟨hl, rfl⟩ := List.getElem?_eq_some_iff.1 hj
  show ((xs.map (Value.int k)).drop (j * 1)).take 1 = [Value.int k xs[j]]
  rw [Nat.mul_one, List.drop_eq_getElem_cons (by simpa using hl)]
  simp
section
variable {P : Program} {ops : Array Oper} {rest : List Oper} {o : Oper} {a : Act} {Q : Exit → Act → World → Prop} {W : World}
/-- An operation that yields a value, the world behind it as a letter. -/
theorem event_at {v : Value} {w1 : World} (hgd : o.guard = none) (hrun : (execOp a.eval o).run P W = .ok (.value v) w1) (h : ∀ w', Aside0 (w' = w1) → wpList P ops Q rest (a.put o.dst v) w') : wpList P ops Q (o :: rest) a W :=
  Kd.event_run hgd hrun (h _ ⟨rfl⟩)
/-- A store, the world behind it as a letter. -/
theorem store_at {w1 : World} (hgd : o.guard = none) {t : TypeId} {p : Tmp} {v : Operand} (ho : o.op = .store t (.tmp p) v) (hN : o.dst = none) (hrun : (execOp a.eval o).run P W = .ok .skip w1) (h : ∀ w', Aside0 (w' = w1) → wpList P ops Q rest a w') : wpList P ops Q (o :: rest) a W :=
  store_event hgd ho hN hrun (fun w' hw => h w' ⟨hw⟩)
end
theorem cell_blk {W : World} {g j : Nat} {cs : Array Value} {t : TypeId} {v : Value} (h : W.heap[g]? = some (.cells cs t (0, 0))) (hj : cs[j]? = some v) : W.cell? ⟨g, j, none⟩ = some v := by
  rw [cell_of_row W g j cs t (0, 0) h, hj]
theorem heap_set_same {W : World} {g j : Nat} {cs : Array Value} {t : TypeId} {fr : Nat × Nat} (h : W.heap[g]? = some (.cells cs t fr)) (v : Value) : (W.setCell ⟨g, j, none⟩ v).heap[g]? = some (.cells (cs.setIfInBounds j v) t fr) := by
  have hlt : g < W.heap.size := (Array.getElem?_eq_some_iff.1 h).1
  rw [Array.getElem?_eq_getElem hlt] at h
  injection h with h
  simp [World.setCell, hlt, Array.getElem_modify, h]
theorem heap_set_other {W : World} {g g' j : Nat} (hne : g' ≠ g) (v : Value) : (W.setCell ⟨g, j, none⟩ v).heap[g']? = W.heap[g']? := Below.heap_setCell W ⟨g, j, none⟩ v g' hne
theorem cell_alloc_of {w : World} {a : Addr} {v : Value} (h : w.cell? a = some v) (o : Obj) : (w.alloc o).cell? a = some v :=
  (World.cell?_alloc_lt _ _ _ (World.block_lt_of_cell? w a h)).trans h
end Go.Proofs.YtbbhdbeaikclcaaGreat.X
-- part XRn6
namespace Go.Proofs.YtbbhdbeaikclcaaGreat.X
open Go.RowKit Go.Proofs.YtbbhdbeaikclcaaGreatW.PrintWords Go.Proofs.YtbbhdbeaikclcaaGreatW.PrintLast Go.Proofs.YtbbhdbeaikclcaaGreatW.PrintMore
attribute [local go_sem] max2_int min2_int max_two min_two max_three min_three max_four min_four   -- for this text's walks alone
set_option linter.unusedVariables false
set_option linter.unusedSimpArgs false
attribute [local go_sem high] eqA45
def sennitref01_Same.l0 : Nat → List ByteArray → List ByteArray → Int → Option (Bool)
  | 0, _, _, _ => none
  | k + 1, x0, x1, x5 => if x5 < (x0.length : Int) then (if 0 ≤ x5 then (if x5 < (x1.length : Int) then (if (rdOf ByteArray.empty x0 x5).toList = (rdOf ByteArray.empty x1 x5).toList then (sennitref01_Same.l0 k x0 x1 (wrap64 (x5 + 1))) else (some false)) else (none)) else (none)) else (some true)
def sennitref01_Same.f (k : Nat) (l0 : List ByteArray) (l1 : List ByteArray) : Option (Bool) := if (l0.length : Int) = (l1.length : Int) then (sennitref01_Same.l0 k l0 l1 0) else (some false)
set_option maxHeartbeats 8000000 in
set_option maxRecDepth 100000 in
theorem sennitref01_Same.calls (k : Nat) (A0 : Option Addr) (c0 : Nat) (l0 : List ByteArray) (A1 : Option Addr) (c1 : Nat) (l1 : List ByteArray) (r : Bool) (w : World) (hr0 : Kd.C Kd.string w A0 l0.length l0) (hc0 : l0.length ≤ c0) (hr1 : Kd.C Kd.string w A1 l1.length l1) (hc1 : l1.length ≤ c1) (h : sennitref01_Same.f k l0 l1 = some r) :
    Calls Tryz.prog 26 #[.slice A0 l0.length c0, .slice A1 l1.length c1] w fun e w' => e = .returned (.bool r) ∧ Drawn0 w w' := by
  have HR0 := Aside0.mk hr0
  have HC0 := Aside0.mk hc0
  clear hr0 hc0
  have HR1 := Aside0.mk hr1
  have HC1 := Aside0.mk hc1
  clear hr1 hc1
  have H : (if (l0.length : Int) = (l1.length : Int) then (sennitref01_Same.l0 k l0 l1 0) else (some false)) = some r := h
  clear h
  by_cases c3 : (l0.length : Int) = (l1.length : Int)
  · rw [if_pos c3] at H
    have c3b0 : ((l0.length : Int) == (l1.length : Int)) = true := beq_iff_eq.mpr c3
    have c3b1 : ((l0.length : Int) != (l1.length : Int)) = false := bne_eq_false_iff_eq.mpr c3
    have c3b2 : (l0.length == l1.length) = true := by first | simpa using c3 | (simp at c3 ⊢; omega)
    clear c3
    have H' := Aside0.mk H
    clear H
    go_enter Tryz.func26, Tryz.ntmps26
    go_wp2
    repeat (go_quiet (fail); try go_wp2)
    go_loopg [5] k (fun kq v5 w' => ∃ (x5_1 : Int), v5 = .int .i64 x5_1 ∧ Aside0 (sennitref01_Same.l0 kq l0 l1 x5_1 = some r) ∧ Aside0 (kq ≤ k) ∧ Drawn0 w w')
    case atStart => exact ⟨(0), (by first | rfl | (simp; done) | (simp [*]; done)), H', ⟨Nat.le_refl _⟩, by repeat (first | exact Drawn0.refl _ | apply Drawn0.step)⟩
    case round =>
      clear H'
      try clear c1
      try clear c2
      try clear p2
      try clear c3
      try clear c3b0
      try clear c3b1
      try clear c3b2
      obtain ⟨x5_1, rfl, HA, HK1, ⟨m1, rfl⟩⟩ := hrel
      cases gk with
      | zero => exact absurd HA.out (by simp [sennitref01_Same.l0])
      | succ k1 =>
        have H := HA.out
        clear HA
        simp only [sennitref01_Same.l0] at H
        by_cases c4 : x5_1 < (l0.length : Int)
        · rw [if_pos c4] at H
          have c4b0 : decide (x5_1 < (l0.length : Int)) = true := decide_eq_true c4
          clear c4
          by_cases c5 : 0 ≤ x5_1
          · rw [if_pos c5] at H
            have c5b0 : decide (0 ≤ x5_1) = true := decide_eq_true c5
            clear c5
            by_cases c6 : x5_1 < (l1.length : Int)
            · rw [if_pos c6] at H
              have c6b0 : decide (x5_1 < (l1.length : Int)) = true := decide_eq_true c6
              clear c6
              by_cases c7 : (rdOf ByteArray.empty l0 x5_1).toList = (rdOf ByteArray.empty l1 x5_1).toList
              · rw [if_pos c7] at H
                have c7b0 : ((rdOf ByteArray.empty l0 x5_1).toList == (rdOf ByteArray.empty l1 x5_1).toList) = true := beq_iff_eq.mpr c7
                have c7b1 : ((rdOf ByteArray.empty l0 x5_1).toList != (rdOf ByteArray.empty l1 x5_1).toList) = false := bne_eq_false_iff_eq.mpr c7
                clear c7
                have H' := Aside0.mk H
                clear H
                have p218 : 0 ≤ (x5_1 : Int) := of_decide_eq_true (by first | (with_reducible assumption) | assumption)
                have q218 : x5_1 < (l0.length : Int) := of_decide_eq_true (by first | (with_reducible assumption) | assumption)
                obtain ⟨ad218, e218, hx218_0⟩ := Kd.at_string HR0.out x5_1 p218 q218
                cases e218
                replace p218 := eq_true p218
                replace q218 := eq_true q218
                have p219 : 0 ≤ (x5_1 : Int) := of_decide_eq_true (by first | (with_reducible assumption) | assumption)
                have q219 : x5_1 < (l1.length : Int) := of_decide_eq_true (by first | (with_reducible assumption) | assumption)
                obtain ⟨ad219, e219, hx219_0⟩ := Kd.at_string HR1.out x5_1 p219 q219
                cases e219
                replace p219 := eq_true p219
                replace q219 := eq_true q219
                go_wp2
                repeat (go_quiet (fail); try go_wp2)
                go_roundg k1
                case measure => have := HK1.out; omega
                case rel => exact ⟨(wrap64 (x5_1 + 1)), (by first | rfl | (simp; done) | (simp [*]; done)), H', ⟨by have := HK1.out; omega⟩, by repeat (first | exact Drawn0.refl _ | apply Drawn0.step)⟩
              · rw [if_neg c7] at H
                have c7b0 : ((rdOf ByteArray.empty l0 x5_1).toList == (rdOf ByteArray.empty l1 x5_1).toList) = false := beq_eq_false_iff_ne.mpr c7
                have c7b1 : ((rdOf ByteArray.empty l0 x5_1).toList != (rdOf ByteArray.empty l1 x5_1).toList) = true := bne_iff_ne.mpr c7
                obtain rfl := Option.some.inj H
                have p218 : 0 ≤ (x5_1 : Int) := of_decide_eq_true (by first | (with_reducible assumption) | assumption)
                have q218 : x5_1 < (l0.length : Int) := of_decide_eq_true (by first | (with_reducible assumption) | assumption)
                obtain ⟨ad218, e218, hx218_0⟩ := Kd.at_string HR0.out x5_1 p218 q218
                cases e218
                replace p218 := eq_true p218
                replace q218 := eq_true q218
                have p219 : 0 ≤ (x5_1 : Int) := of_decide_eq_true (by first | (with_reducible assumption) | assumption)
                have q219 : x5_1 < (l1.length : Int) := of_decide_eq_true (by first | (with_reducible assumption) | assumption)
                obtain ⟨ad219, e219, hx219_0⟩ := Kd.at_string HR1.out x5_1 p219 q219
                cases e219
                replace p219 := eq_true p219
                replace q219 := eq_true q219
                go_wp2
                repeat (go_quiet (fail); try go_wp2)
                go_ret
                exact ⟨by first | rfl | (simp; done) | (simp [*]; done), by repeat (first | exact Drawn0.refl _ | apply Drawn0.step)⟩
            · rw [if_neg c6] at H
              exact absurd H (by simp)
          · rw [if_neg c5] at H
            exact absurd H (by simp)
        · rw [if_neg c4] at H
          have c4b0 : decide (x5_1 < (l0.length : Int)) = false := decide_eq_false c4
          clear c4
          obtain rfl := Option.some.inj H
          go_wp2
          repeat (go_quiet (fail); try go_wp2)
          go_ret
          exact ⟨by first | rfl | (simp; done) | (simp [*]; done), by repeat (first | exact Drawn0.refl _ | apply Drawn0.step)⟩
  · rw [if_neg c3] at H
    have c3b0 : ((l0.length : Int) == (l1.length : Int)) = false := beq_eq_false_iff_ne.mpr c3
    have c3b1 : ((l0.length : Int) != (l1.length : Int)) = true := bne_iff_ne.mpr c3
    have c3b2 : (l0.length == l1.length) = false := by first | simpa using c3 | (simp at c3 ⊢; omega)
    obtain rfl := Option.some.inj H
    go_enter Tryz.func26, Tryz.ntmps26
    go_wp2
    repeat (go_quiet (fail); try go_wp2)
    go_ret
    exact ⟨by first | rfl | (simp; done) | (simp [*]; done), by repeat (first | exact Drawn0.refl _ | apply Drawn0.step)⟩

end Go.Proofs.YtbbhdbeaikclcaaGreat.X
-- part XRn1
namespace Go.Proofs.YtbbhdbeaikclcaaGreat.X
open Go.RowKit Go.Proofs.YtbbhdbeaikclcaaGreatW.PrintWords Go.Proofs.YtbbhdbeaikclcaaGreatW.PrintLast Go.Proofs.YtbbhdbeaikclcaaGreatW.PrintMore
attribute [local go_sem] max2_int min2_int max_two min_two max_three min_three max_four min_four   -- for this text's walks alone
set_option linter.unusedVariables false
set_option linter.unusedSimpArgs false
mutual
def sennitref01_Few.l0 : Nat → List ByteArray → Int → Int → Option (Bool)
  | 0, _, _, _ => none
  | k + 1, x0, x1, x5 => if x5 < (x0.length : Int) then (sennitref01_Few.j1 k x0 x1 x5 (decide (x5 ≤ x1))) else (sennitref01_Few.j1 k x0 x1 x5 false)
def sennitref01_Few.j1 : Nat → List ByteArray → Int → Int → Bool → Option (Bool)
  | 0, _, _, _, _ => none
  | k + 1, x0, x1, x5, x14 => if x14 = true then (if 0 ≤ x5 then (if x5 < (x0.length : Int) then (if ((rdOf ByteArray.empty x0 x5).size : Int) > 100 then (some false) else (sennitref01_Few.l0 k x0 x1 (wrap64 (x5 + 1)))) else (none)) else (none)) else (some (decide ((x0.length : Int) ≤ x1)))
end
def sennitref01_Few.f (k : Nat) (l0 : List ByteArray) (a1 : Int) : Option (Bool) := sennitref01_Few.l0 k l0 a1 0
set_option maxHeartbeats 8000000 in
set_option maxRecDepth 100000 in
theorem sennitref01_Few.calls (k : Nat) (A0 : Option Addr) (c0 : Nat) (l0 : List ByteArray) (a1 : Int) (r : Bool) (w : World) (hr0 : Kd.C Kd.string w A0 l0.length l0) (hc0 : l0.length ≤ c0) (h : sennitref01_Few.f k l0 a1 = some r) :
    Calls Tryz.prog 32 #[.slice A0 l0.length c0, .int .i64 a1] w fun e w' => e = .returned (.bool r) ∧ Drawn0 w w' := by
  have HR0 := Aside0.mk hr0
  have HC0 := Aside0.mk hc0
  clear hr0 hc0
  have H : (sennitref01_Few.l0 k l0 a1 0) = some r := h
  clear h
  have H' := Aside0.mk H
  clear H
  go_enter Tryz.func32, Tryz.ntmps32
  go_wp2
  go_loopg [5] k (fun kq v5 w' => ∃ (x5_1 : Int), v5 = .int .i64 x5_1 ∧ Aside0 (sennitref01_Few.l0 kq l0 a1 x5_1 = some r) ∧ Aside0 (kq ≤ k) ∧ Drawn0 w w')
  case atStart => exact ⟨(0), (by first | rfl | (simp; done) | (simp [*]; done)), H', ⟨Nat.le_refl _⟩, by repeat (first | exact Drawn0.refl _ | apply Drawn0.step)⟩
  case round =>
    clear H'
    try clear p2
    obtain ⟨x5_1, rfl, HA, HK1, ⟨m1, rfl⟩⟩ := hrel
    cases gk with
    | zero => exact absurd HA.out (by simp [sennitref01_Few.l0])
    | succ k1 =>
      have H := HA.out
      clear HA
      simp only [sennitref01_Few.l0] at H
      have HC3 := Aside0.mk H
      clear H
      go_upto_region 2 with (fail)
      go_cut [14] (fun v14 wc => ∃ (kq : Nat) (x14_2 : Bool), v14 = .bool x14_2 ∧ Aside0 (sennitref01_Few.j1 kq l0 a1 x5_1 x14_2 = some r) ∧ Aside0 (kq ≤ k1) ∧ Drawn0 w wc)
      case first =>
        have H := HC3.out
        clear HC3
        by_cases c4 : x5_1 < (l0.length : Int)
        · rw [if_pos c4] at H
          have c4b0 : decide (x5_1 < (l0.length : Int)) = true := decide_eq_true c4
          clear c4
          (first | rw [c4b0] | (simp only [i64_w, i32_w]; rw [c4b0]) | skip)
          have H' := Aside0.mk H
          clear H
          go_wp2
          go_meet
          case rel => exact ⟨_, (decide (x5_1 ≤ a1)), (by first | rfl | (simp; done) | (simp [*]; done)), H', ⟨by have := HK1.out; first | omega | exact Nat.le_refl _⟩, by repeat (first | exact Drawn0.refl _ | apply Drawn0.step)⟩
        · rw [if_neg c4] at H
          have c4b0 : decide (x5_1 < (l0.length : Int)) = false := decide_eq_false c4
          clear c4
          (first | rw [c4b0] | (simp only [i64_w, i32_w]; rw [c4b0]) | skip)
          have H' := Aside0.mk H
          clear H
          go_wp2
          go_meet
          case rel => exact ⟨_, (false), (by first | rfl | (simp; done) | (simp [*]; done)), H', ⟨by have := HK1.out; first | omega | exact Nat.le_refl _⟩, by repeat (first | exact Drawn0.refl _ | apply Drawn0.step)⟩
      case rest =>
        clear HC3
        try clear p2
        try clear c3
        try clear c4
        try clear c4b0
        try clear p2
        obtain ⟨kq, x14_2, rfl, HA, HJ2, ⟨mc2, rfl⟩⟩ := hcut
        cases kq with
        | zero => exact absurd HA.out (by simp [sennitref01_Few.j1])
        | succ kj2 =>
          have H := HA.out
          clear HA
          simp only [sennitref01_Few.j1] at H
          by_cases c5 : x14_2 = true
          · subst c5
            have H1 : (if 0 ≤ x5_1 then (if x5_1 < (l0.length : Int) then (if ((rdOf ByteArray.empty l0 x5_1).size : Int) > 100 then (some false) else (sennitref01_Few.l0 kj2 l0 a1 (wrap64 (x5_1 + 1)))) else (none)) else (none)) = some r := by rw [if_pos rfl] at H; exact H
            clear H
            have H := H1
            clear H1
            by_cases c6 : 0 ≤ x5_1
            · rw [if_pos c6] at H
              have c6b0 : decide (0 ≤ x5_1) = true := decide_eq_true c6
              clear c6
              by_cases c7 : x5_1 < (l0.length : Int)
              · rw [if_pos c7] at H
                have c7b0 : decide (x5_1 < (l0.length : Int)) = true := decide_eq_true c7
                clear c7
                by_cases c8 : ((rdOf ByteArray.empty l0 x5_1).size : Int) > 100
                · rw [if_pos c8] at H
                  have c8b0 : decide (100 < ((rdOf ByteArray.empty l0 x5_1).size : Int)) = true := decide_eq_true c8
                  have c8b1 : decide (100 < (rdOf ByteArray.empty l0 x5_1).size) = true := decide_eq_true (by omega)
                  clear c8
                  obtain rfl := Option.some.inj H
                  have p101 : 0 ≤ (x5_1 : Int) := of_decide_eq_true (by first | (with_reducible assumption) | assumption)
                  have q101 : x5_1 < (l0.length : Int) := of_decide_eq_true (by first | (with_reducible assumption) | assumption)
                  obtain ⟨ad101, e101, hx101_0⟩ := Kd.at_string HR0.out x5_1 p101 q101
                  cases e101
                  replace p101 := eq_true p101
                  replace q101 := eq_true q101
                  go_wp2
                  go_ret
                  exact ⟨by first | rfl | (simp; done) | (simp [*]; done), by repeat (first | exact Drawn0.refl _ | apply Drawn0.step)⟩
                · rw [if_neg c8] at H
                  have c8b0 : decide (100 < ((rdOf ByteArray.empty l0 x5_1).size : Int)) = false := decide_eq_false c8
                  have c8b1 : decide (100 < (rdOf ByteArray.empty l0 x5_1).size) = false := decide_eq_false (by omega)
                  clear c8
                  have H' := Aside0.mk H
                  clear H
                  have p101 : 0 ≤ (x5_1 : Int) := of_decide_eq_true (by first | (with_reducible assumption) | assumption)
                  have q101 : x5_1 < (l0.length : Int) := of_decide_eq_true (by first | (with_reducible assumption) | assumption)
                  obtain ⟨ad101, e101, hx101_0⟩ := Kd.at_string HR0.out x5_1 p101 q101
                  cases e101
                  replace p101 := eq_true p101
                  replace q101 := eq_true q101
                  go_wp2
                  go_roundg kj2
                  case measure => have := HK1.out; have := HJ2.out; omega
                  case rel => exact ⟨(wrap64 (x5_1 + 1)), (by first | rfl | (simp; done) | (simp [*]; done)), H', ⟨by have := HK1.out; have := HJ2.out; omega⟩, by repeat (first | exact Drawn0.refl _ | apply Drawn0.step)⟩
              · rw [if_neg c7] at H
                exact absurd H (by simp)
            · rw [if_neg c6] at H
              exact absurd H (by simp)
          · replace c5 := Bool.eq_false_iff.mpr c5
            subst c5
            have H1 : (some (decide ((l0.length : Int) ≤ a1))) = some r := by rw [if_neg (show ¬ (false = true) by decide)] at H; exact H
            clear H
            have H := H1
            clear H1
            obtain rfl := Option.some.inj H
            go_wp2
            go_ret
            exact ⟨by first | rfl | (simp; done) | (simp [*]; done), by repeat (first | exact Drawn0.refl _ | apply Drawn0.step)⟩

mutual
def sennitref08_Few.l0 : Nat → List ByteArray → List (List ByteArray) → Int → Option (Bool)
  | 0, _, _, _ => none
  | k + 1, x0, x1, x5 => if x5 < (x1.length : Int) then (sennitref08_Few.j1 k x0 x1 x5 (decide (x5 < 7))) else (sennitref08_Few.j1 k x0 x1 x5 false)
def sennitref08_Few.j1 : Nat → List ByteArray → List (List ByteArray) → Int → Bool → Option (Bool)
  | 0, _, _, _, _ => none
  | k + 1, x0, x1, x5, x13 => if x13 = true then (if 0 ≤ x5 then (if x5 < (x1.length : Int) then ((sennitref01_Few.f k (rd_L1 x1 x5) 16).bind fun t103 => (if t103 = true then (sennitref08_Few.l0 k x0 x1 (wrap64 (x5 + 1))) else (some false))) else (none)) else (none)) else ((sennitref01_Few.f k x0 16).bind fun t104 => (if t104 = true then (some (decide ((x1.length : Int) ≤ 6))) else (some false)))
end
def sennitref08_Few.f (k : Nat) (l0 : List ByteArray) (l1 : List (List ByteArray)) : Option (Bool) := sennitref08_Few.l0 k l0 l1 0
set_option maxHeartbeats 8000000 in
set_option maxRecDepth 100000 in
theorem sennitref08_Few.calls (k : Nat) (A0 : Option Addr) (c0 : Nat) (l0 : List ByteArray) (A1 : Option Addr) (c1 : Nat) (l1 : List (List ByteArray)) (r : Bool) (w : World) (hr0 : Kd.C Kd.string w A0 l0.length l0) (hc0 : l0.length ≤ c0) (hr1 : Kd.C (Kd.slice 9 Kd.string) w A1 l1.length l1) (hc1 : l1.length ≤ c1) (h : sennitref08_Few.f k l0 l1 = some r) :
    Calls Tryz.prog 14 #[.slice A0 l0.length c0, .slice A1 l1.length c1] w fun e w' => e = .returned (.bool r) ∧ Drawn0 w w' := by
  have HR0 := Aside0.mk hr0
  have HC0 := Aside0.mk hc0
  clear hr0 hc0
  have HR1 := Aside0.mk hr1
  have HC1 := Aside0.mk hc1
  clear hr1 hc1
  have H : (sennitref08_Few.l0 k l0 l1 0) = some r := h
  clear h
  have H' := Aside0.mk H
  clear H
  go_enter Tryz.func14, Tryz.ntmps14
  go_wp2
  go_loopg [5] k (fun kq v5 w' => ∃ (x5_1 : Int), v5 = .int .i64 x5_1 ∧ Aside0 (sennitref08_Few.l0 kq l0 l1 x5_1 = some r) ∧ Aside0 (kq ≤ k) ∧ Drawn0 w w')
  case atStart => exact ⟨(0), (by first | rfl | (simp; done) | (simp [*]; done)), H', ⟨Nat.le_refl _⟩, by repeat (first | exact Drawn0.refl _ | apply Drawn0.step)⟩
  case round =>
    clear H'
    try clear c1
    try clear p2
    obtain ⟨x5_1, rfl, HA, HK1, ⟨m1, rfl⟩⟩ := hrel
    cases gk with
    | zero => exact absurd HA.out (by simp [sennitref08_Few.l0])
    | succ k1 =>
      have H := HA.out
      clear HA
      simp only [sennitref08_Few.l0] at H
      have HC3 := Aside0.mk H
      clear H
      go_upto_region 2 with (fail)
      go_cut [13] (fun v13 wc => ∃ (kq : Nat) (x13_2 : Bool), v13 = .bool x13_2 ∧ Aside0 (sennitref08_Few.j1 kq l0 l1 x5_1 x13_2 = some r) ∧ Aside0 (kq ≤ k1) ∧ Drawn0 w wc)
      case first =>
        have H := HC3.out
        clear HC3
        by_cases c4 : x5_1 < (l1.length : Int)
        · rw [if_pos c4] at H
          have c4b0 : decide (x5_1 < (l1.length : Int)) = true := decide_eq_true c4
          clear c4
          (first | rw [c4b0] | (simp only [i64_w, i32_w]; rw [c4b0]) | skip)
          have H' := Aside0.mk H
          clear H
          go_wp2
          go_meet
          case rel => exact ⟨_, (decide (x5_1 < 7)), (by first | rfl | (simp; done) | (simp [*]; done)), H', ⟨by have := HK1.out; first | omega | exact Nat.le_refl _⟩, by repeat (first | exact Drawn0.refl _ | apply Drawn0.step)⟩
        · rw [if_neg c4] at H
          have c4b0 : decide (x5_1 < (l1.length : Int)) = false := decide_eq_false c4
          clear c4
          (first | rw [c4b0] | (simp only [i64_w, i32_w]; rw [c4b0]) | skip)
          have H' := Aside0.mk H
          clear H
          go_wp2
          go_meet
          case rel => exact ⟨_, (false), (by first | rfl | (simp; done) | (simp [*]; done)), H', ⟨by have := HK1.out; first | omega | exact Nat.le_refl _⟩, by repeat (first | exact Drawn0.refl _ | apply Drawn0.step)⟩
      case rest =>
        clear HC3
        try clear c1
        try clear p2
        try clear c4
        try clear c4b0
        try clear p2
        obtain ⟨kq, x13_2, rfl, HA, HJ2, ⟨mc2, rfl⟩⟩ := hcut
        cases kq with
        | zero => exact absurd HA.out (by simp [sennitref08_Few.j1])
        | succ kj2 =>
          have H := HA.out
          clear HA
          simp only [sennitref08_Few.j1] at H
          by_cases c5 : x13_2 = true
          · subst c5
            have H1 : (if 0 ≤ x5_1 then (if x5_1 < (l1.length : Int) then ((sennitref01_Few.f kj2 (rd_L1 l1 x5_1) 16).bind fun t103 => (if t103 = true then (sennitref08_Few.l0 kj2 l0 l1 (wrap64 (x5_1 + 1))) else (some false))) else (none)) else (none)) = some r := by rw [if_pos rfl] at H; exact H
            clear H
            have H := H1
            clear H1
            by_cases c6 : 0 ≤ x5_1
            · rw [if_pos c6] at H
              have c6b0 : decide (0 ≤ x5_1) = true := decide_eq_true c6
              clear c6
              by_cases c7 : x5_1 < (l1.length : Int)
              · rw [if_pos c7] at H
                have c7b0 : decide (x5_1 < (l1.length : Int)) = true := decide_eq_true c7
                clear c7
                replace H := Option.bind_eq_some_iff.mp H
                obtain ⟨t103, A80, H⟩ := H
                replace H : (if t103 = true then (sennitref08_Few.l0 kj2 l0 l1 (wrap64 (x5_1 + 1))) else (some false)) = some r := H
                have A8 := Aside0.mk A80
                clear A80
                by_cases c9 : t103 = true
                · subst c9
                  have H1 : (sennitref08_Few.l0 kj2 l0 l1 (wrap64 (x5_1 + 1))) = some r := by rw [if_pos rfl] at H; exact H
                  clear H
                  have H := H1
                  clear H1
                  have H' := Aside0.mk H
                  clear H
                  have p102 : 0 ≤ (x5_1 : Int) := of_decide_eq_true (by first | (with_reducible assumption) | assumption)
                  have q102 : x5_1 < (l1.length : Int) := of_decide_eq_true (by first | (with_reducible assumption) | assumption)
                  obtain ⟨ad102, A102_0, c102_0, e102, hx102_0, hl102_0, hi102_0⟩ := at_L1 HR1.out x5_1 p102 q102
                  cases e102
                  have HR102_0 := Aside0.mk hi102_0
                  have HC102_0 := Aside0.mk hl102_0
                  clear hi102_0 hl102_0
                  replace p102 := eq_true p102
                  replace q102 := eq_true q102
                  go_wp2_with (first | ((with_reducible refine gate_callee (f := 32) rfl ?_); refine goesL_ (some 20) rfl rfl Tryz.func32 (by kernel_rfl) rfl #[.slice A102_0 (rd_L1 l1 x5_1).length c102_0, .int .i64 16] rfl (by (try simp only [List.map_toArray, List.map_cons, List.map_nil]); first | done | rfl | (simp only [List.length_drop, List.length_take]; rfl)) ?_; (with_reducible refine (sennitref01_Few.calls kj2 _ _ (rd_L1 l1 x5_1) 16 true _ ?side1 ?side2 A8.out).mono ?_); (case side1 => repeat (first | exact HR102_0.out | (with_reducible refine Kd.C_alloc ?_ _) | (with_reducible refine Kd.C_drewN ?_ _) | (with_reducible refine Kd.C_drew ?_))); (case side2 => exact HC102_0.out); rintro e w' ⟨rfl, ⟨nd, rfl⟩⟩; refine ⟨_, rfl, ?_⟩))
                  go_roundg kj2
                  case measure => have := HK1.out; have := HJ2.out; omega
                  case rel => exact ⟨(wrap64 (x5_1 + 1)), (by first | rfl | (simp; done) | (simp [*]; done)), H', ⟨by have := HK1.out; have := HJ2.out; omega⟩, by repeat (first | exact Drawn0.refl _ | apply Drawn0.step)⟩
                · replace c9 := Bool.eq_false_iff.mpr c9
                  subst c9
                  have H1 : (some false) = some r := by rw [if_neg (show ¬ (false = true) by decide)] at H; exact H
                  clear H
                  have H := H1
                  clear H1
                  obtain rfl := Option.some.inj H
                  have p102 : 0 ≤ (x5_1 : Int) := of_decide_eq_true (by first | (with_reducible assumption) | assumption)
                  have q102 : x5_1 < (l1.length : Int) := of_decide_eq_true (by first | (with_reducible assumption) | assumption)
                  obtain ⟨ad102, A102_0, c102_0, e102, hx102_0, hl102_0, hi102_0⟩ := at_L1 HR1.out x5_1 p102 q102
                  cases e102
                  have HR102_0 := Aside0.mk hi102_0
                  have HC102_0 := Aside0.mk hl102_0
                  clear hi102_0 hl102_0
                  replace p102 := eq_true p102
                  replace q102 := eq_true q102
                  go_wp2_with (first | ((with_reducible refine gate_callee (f := 32) rfl ?_); refine goesL_ (some 20) rfl rfl Tryz.func32 (by kernel_rfl) rfl #[.slice A102_0 (rd_L1 l1 x5_1).length c102_0, .int .i64 16] rfl (by (try simp only [List.map_toArray, List.map_cons, List.map_nil]); first | done | rfl | (simp only [List.length_drop, List.length_take]; rfl)) ?_; (with_reducible refine (sennitref01_Few.calls kj2 _ _ (rd_L1 l1 x5_1) 16 false _ ?side1 ?side2 A8.out).mono ?_); (case side1 => repeat (first | exact HR102_0.out | (with_reducible refine Kd.C_alloc ?_ _) | (with_reducible refine Kd.C_drewN ?_ _) | (with_reducible refine Kd.C_drew ?_))); (case side2 => exact HC102_0.out); rintro e w' ⟨rfl, ⟨nd, rfl⟩⟩; refine ⟨_, rfl, ?_⟩))
                  go_ret
                  exact ⟨by first | rfl | (simp; done) | (simp [*]; done), by repeat (first | exact Drawn0.refl _ | apply Drawn0.step)⟩
              · rw [if_neg c7] at H
                exact absurd H (by simp)
            · rw [if_neg c6] at H
              exact absurd H (by simp)
          · replace c5 := Bool.eq_false_iff.mpr c5
            subst c5
            have H1 : ((sennitref01_Few.f kj2 l0 16).bind fun t104 => (if t104 = true then (some (decide ((l1.length : Int) ≤ 6))) else (some false))) = some r := by rw [if_neg (show ¬ (false = true) by decide)] at H; exact H
            clear H
            have H := H1
            clear H1
            replace H := Option.bind_eq_some_iff.mp H
            obtain ⟨t104, A100, H⟩ := H
            replace H : (if t104 = true then (some (decide ((l1.length : Int) ≤ 6))) else (some false)) = some r := H
            have A10 := Aside0.mk A100
            clear A100
            by_cases c11 : t104 = true
            · subst c11
              have H1 : (some (decide ((l1.length : Int) ≤ 6))) = some r := by rw [if_pos rfl] at H; exact H
              clear H
              have H := H1
              clear H1
              obtain rfl := Option.some.inj H
              go_wp2_with (first | ((with_reducible refine gate_callee (f := 32) rfl ?_); refine goesL_ (some 23) rfl rfl Tryz.func32 (by kernel_rfl) rfl #[.slice A0 l0.length c0, .int .i64 16] rfl (by (try simp only [List.map_toArray, List.map_cons, List.map_nil]); first | done | rfl | (simp only [List.length_drop, List.length_take]; rfl)) ?_; (with_reducible refine (sennitref01_Few.calls kj2 _ _ l0 16 true _ ?side1 ?side2 A10.out).mono ?_); (case side1 => repeat (first | exact HR0.out | (with_reducible refine Kd.C_alloc ?_ _) | (with_reducible refine Kd.C_drewN ?_ _) | (with_reducible refine Kd.C_drew ?_))); (case side2 => exact HC0.out); rintro e w' ⟨rfl, ⟨nd, rfl⟩⟩; refine ⟨_, rfl, ?_⟩))
              go_ret
              exact ⟨by first | rfl | (simp; done) | (simp [*]; done), by repeat (first | exact Drawn0.refl _ | apply Drawn0.step)⟩
            · replace c11 := Bool.eq_false_iff.mpr c11
              subst c11
              have H1 : (some false) = some r := by rw [if_neg (show ¬ (false = true) by decide)] at H; exact H
              clear H
              have H := H1
              clear H1
              obtain rfl := Option.some.inj H
              go_wp2_with (first | ((with_reducible refine gate_callee (f := 32) rfl ?_); refine goesL_ (some 23) rfl rfl Tryz.func32 (by kernel_rfl) rfl #[.slice A0 l0.length c0, .int .i64 16] rfl (by (try simp only [List.map_toArray, List.map_cons, List.map_nil]); first | done | rfl | (simp only [List.length_drop, List.length_take]; rfl)) ?_; (with_reducible refine (sennitref01_Few.calls kj2 _ _ l0 16 false _ ?side1 ?side2 A10.out).mono ?_); (case side1 => repeat (first | exact HR0.out | (with_reducible refine Kd.C_alloc ?_ _) | (with_reducible refine Kd.C_drewN ?_ _) | (with_reducible refine Kd.C_drew ?_))); (case side2 => exact HC0.out); rintro e w' ⟨rfl, ⟨nd, rfl⟩⟩; refine ⟨_, rfl, ?_⟩))
              go_ret
              exact ⟨by first | rfl | (simp; done) | (simp [*]; done), by repeat (first | exact Drawn0.refl _ | apply Drawn0.step)⟩

def sennitref01_feeds.l0 : Nat → ByteArray → Int → Int → Option (Int)
  | 0, _, _, _ => none
  | k + 1, x0, x3, x4 => if x4 < (x0.size : Int) then (if 0 ≤ x4 then (if (bt x0 x4) = 10 then (sennitref01_feeds.l0 k x0 (wrap64 (x3 + 1)) (wrap64 (x4 + 1))) else (sennitref01_feeds.l0 k x0 x3 (wrap64 (x4 + 1)))) else (none)) else (some x3)
def sennitref01_feeds.f (k : Nat) (a0 : ByteArray) : Option (Int) := sennitref01_feeds.l0 k a0 0 0
set_option maxHeartbeats 8000000 in
set_option maxRecDepth 100000 in
theorem sennitref01_feeds.calls (k : Nat) (a0 : ByteArray) (r : Int) (w : World) (h : sennitref01_feeds.f k a0 = some r) :
    Calls Tryz.prog 54 #[.string a0] w fun e w' => e = .returned (.int .i64 r) ∧ Drawn0 w w' := by
  have H : (sennitref01_feeds.l0 k a0 0 0) = some r := h
  clear h
  have H' := Aside0.mk H
  clear H
  go_enter Tryz.func54, Tryz.ntmps54
  go_wp2
  go_loopg [3, 4] k (fun kq v3 v4 w' => ∃ (x3_1 : Int) (x4_1 : Int), v3 = .int .i64 x3_1 ∧ v4 = .int .i64 x4_1 ∧ Aside0 (sennitref01_feeds.l0 kq a0 x3_1 x4_1 = some r) ∧ Aside0 (kq ≤ k) ∧ Drawn0 w w')
  case atStart => exact ⟨(0), (0), (by first | rfl | (simp; done) | (simp [*]; done)), (by first | rfl | (simp; done) | (simp [*]; done)), H', ⟨Nat.le_refl _⟩, by repeat (first | exact Drawn0.refl _ | apply Drawn0.step)⟩
  case round =>
    clear H'
    obtain ⟨x3_1, x4_1, rfl, rfl, HA, HK1, ⟨m1, rfl⟩⟩ := hrel
    cases gk with
    | zero => exact absurd HA.out (by simp [sennitref01_feeds.l0])
    | succ k1 =>
      have H := HA.out
      clear HA
      simp only [sennitref01_feeds.l0] at H
      by_cases c2 : x4_1 < (a0.size : Int)
      · rw [if_pos c2] at H
        have c2b0 : decide (x4_1 < (a0.size : Int)) = true := decide_eq_true c2
        clear c2
        by_cases c3 : 0 ≤ x4_1
        · rw [if_pos c3] at H
          have c3b0 : decide (0 ≤ x4_1) = true := decide_eq_true c3
          clear c3
          by_cases c5 : (bt a0 x4_1) = 10
          · rw [if_pos c5] at H
            have c5b0 : ((bt a0 x4_1) == 10) = true := beq_iff_eq.mpr c5
            have c5b1 : ((bt a0 x4_1) != 10) = false := bne_eq_false_iff_eq.mpr c5
            clear c5
            have H' := Aside0.mk H
            clear H
            have p4 : 0 ≤ (x4_1 : Int) := of_decide_eq_true (by first | (with_reducible assumption) | assumption)
            have q4 : x4_1 < (a0.size : Int) := of_decide_eq_true (by first | (with_reducible assumption) | assumption)
            have hx4 := bt_at a0 x4_1
            replace p4 := eq_true p4
            replace q4 := eq_true q4
            go_wp2
            go_roundg k1
            case measure => have := HK1.out; omega
            case rel => exact ⟨(wrap64 (x3_1 + 1)), (wrap64 (x4_1 + 1)), (by first | rfl | (simp; done) | (simp [*]; done)), (by first | rfl | (simp; done) | (simp [*]; done)), H', ⟨by have := HK1.out; omega⟩, by repeat (first | exact Drawn0.refl _ | apply Drawn0.step)⟩
          · rw [if_neg c5] at H
            have c5b0 : ((bt a0 x4_1) == 10) = false := beq_eq_false_iff_ne.mpr c5
            have c5b1 : ((bt a0 x4_1) != 10) = true := bne_iff_ne.mpr c5
            have H' := Aside0.mk H
            clear H
            have p4 : 0 ≤ (x4_1 : Int) := of_decide_eq_true (by first | (with_reducible assumption) | assumption)
            have q4 : x4_1 < (a0.size : Int) := of_decide_eq_true (by first | (with_reducible assumption) | assumption)
            have hx4 := bt_at a0 x4_1
            replace p4 := eq_true p4
            replace q4 := eq_true q4
            go_wp2
            go_roundg k1
            case measure => have := HK1.out; omega
            case rel => exact ⟨(x3_1), (wrap64 (x4_1 + 1)), (by first | rfl | (simp; done) | (simp [*]; done)), (by first | rfl | (simp; done) | (simp [*]; done)), H', ⟨by have := HK1.out; omega⟩, by repeat (first | exact Drawn0.refl _ | apply Drawn0.step)⟩
        · rw [if_neg c3] at H
          exact absurd H (by simp)
      · rw [if_neg c2] at H
        have c2b0 : decide (x4_1 < (a0.size : Int)) = false := decide_eq_false c2
        clear c2
        obtain rfl := Option.some.inj H
        go_wp2
        go_ret
        exact ⟨by first | rfl | (simp; done) | (simp [*]; done), by repeat (first | exact Drawn0.refl _ | apply Drawn0.step)⟩

def sennitref01_Line.f (k : Nat) (a0 : ByteArray) : Option (Bool) := (sennitref01_feeds.f k a0).bind fun t105 => (if t105 = 1 then (if 0 ≤ (wrap64 ((a0.size : Int) - 1)) then (if (wrap64 ((a0.size : Int) - 1)) < (a0.size : Int) then (some ((bt a0 (wrap64 ((a0.size : Int) - 1))) == 10)) else (none)) else (none)) else (some false))
set_option maxHeartbeats 8000000 in
set_option maxRecDepth 100000 in
theorem sennitref01_Line.calls (k : Nat) (a0 : ByteArray) (r : Bool) (w : World) (h : sennitref01_Line.f k a0 = some r) :
    Calls Tryz.prog 55 #[.string a0] w fun e w' => e = .returned (.bool r) ∧ Drawn0 w w' := by
  have H : ((sennitref01_feeds.f k a0).bind fun t105 => (if t105 = 1 then (if 0 ≤ (wrap64 ((a0.size : Int) - 1)) then (if (wrap64 ((a0.size : Int) - 1)) < (a0.size : Int) then (some ((bt a0 (wrap64 ((a0.size : Int) - 1))) == 10)) else (none)) else (none)) else (some false))) = some r := h
  clear h
  replace H := Option.bind_eq_some_iff.mp H
  obtain ⟨t105, A20, H⟩ := H
  replace H : (if t105 = 1 then (if 0 ≤ (wrap64 ((a0.size : Int) - 1)) then (if (wrap64 ((a0.size : Int) - 1)) < (a0.size : Int) then (some ((bt a0 (wrap64 ((a0.size : Int) - 1))) == 10)) else (none)) else (none)) else (some false)) = some r := H
  have A2 := Aside0.mk A20
  clear A20
  by_cases c3 : t105 = 1
  · rw [if_pos c3] at H
    have c3b0 : (t105 == 1) = true := beq_iff_eq.mpr c3
    have c3b1 : (t105 != 1) = false := bne_eq_false_iff_eq.mpr c3
    clear c3
    obtain ⟨ji4, hji4⟩ : ∃ j_ : Int, (wrap64 ((a0.size : Int) - 1)) = j_ := ⟨_, rfl⟩
    replace H : (if 0 ≤ (ji4) then (if (ji4) < (a0.size : Int) then (some ((bt a0 (ji4)) == 10)) else (none)) else (none)) = some r := by first | (rw [hji4] at H; exact H) | (simp only [hji4] at H ⊢; exact H)
    (try rw [hji4] at A2)
    have hji4w : (IntKind.i64.wrap ((a0.size : Int) - 1)) = ji4 := (i64_w _).trans hji4
    by_cases c5 : 0 ≤ (ji4)
    · rw [if_pos c5] at H
      have c5b0 : decide (0 ≤ (ji4)) = true := decide_eq_true c5
      clear c5
      by_cases c6 : (ji4) < (a0.size : Int)
      · rw [if_pos c6] at H
        have c6b0 : decide ((ji4) < (a0.size : Int)) = true := decide_eq_true c6
        clear c6
        obtain rfl := Option.some.inj H
        go_enter Tryz.func55, Tryz.ntmps55
        go_wp2_with (first | ((with_reducible refine gate_callee (f := 54) rfl ?_); refine goesL_ (some 4) rfl rfl Tryz.func54 (by kernel_rfl) rfl #[.string a0] rfl (by (try simp only [List.map_toArray, List.map_cons, List.map_nil]); first | done | rfl | (simp only [List.length_drop, List.length_take]; rfl)) ?_; (with_reducible refine (sennitref01_feeds.calls k a0 t105 _ A2.out).mono ?_); rintro e w' ⟨rfl, ⟨nd, rfl⟩⟩; refine ⟨_, rfl, ?_⟩; have p7 : 0 ≤ ((ji4) : Int) := of_decide_eq_true (by first | (with_reducible assumption) | assumption); have q7 : (ji4) < (a0.size : Int) := of_decide_eq_true (by first | (with_reducible assumption) | assumption); have hx7 := bt_at a0 (ji4); replace p7 := eq_true p7; replace q7 := eq_true q7))
        go_ret
        exact ⟨by first | rfl | (simp; done) | (simp only [← hji4] <;> (first | rfl | simp)) | (simp [*]; done), by repeat (first | exact Drawn0.refl _ | apply Drawn0.step)⟩
      · rw [if_neg c6] at H
        exact absurd H (by simp)
    · rw [if_neg c5] at H
      exact absurd H (by simp)
  · rw [if_neg c3] at H
    have c3b0 : (t105 == 1) = false := beq_eq_false_iff_ne.mpr c3
    have c3b1 : (t105 != 1) = true := bne_iff_ne.mpr c3
    obtain rfl := Option.some.inj H
    go_enter Tryz.func55, Tryz.ntmps55
    go_wp2_with (first | ((with_reducible refine gate_callee (f := 54) rfl ?_); refine goesL_ (some 4) rfl rfl Tryz.func54 (by kernel_rfl) rfl #[.string a0] rfl (by (try simp only [List.map_toArray, List.map_cons, List.map_nil]); first | done | rfl | (simp only [List.length_drop, List.length_take]; rfl)) ?_; (with_reducible refine (sennitref01_feeds.calls k a0 t105 _ A2.out).mono ?_); rintro e w' ⟨rfl, ⟨nd, rfl⟩⟩; refine ⟨_, rfl, ?_⟩))
    go_ret
    exact ⟨by first | rfl | (simp; done) | (simp [*]; done), by repeat (first | exact Drawn0.refl _ | apply Drawn0.step)⟩

def sennitref01_May.l0 : Nat → List ByteArray → Int → Option (Bool)
  | 0, _, _ => none
  | k + 1, x0, x3 => if x3 < (x0.length : Int) then (if x3 = (wrap64 ((x0.length : Int) - 1)) then (if 0 ≤ x3 then (if ((rdOf ByteArray.empty x0 x3).size : Int) > 0 then ((sennitref01_feeds.f k (rdOf ByteArray.empty x0 x3)).bind fun t108 => (if t108 = 0 then (sennitref01_May.l0 k x0 (wrap64 (x3 + 1))) else ((sennitref01_Line.f k (rdOf ByteArray.empty x0 x3)).bind fun t110 => (if t110 = true then (sennitref01_May.l0 k x0 (wrap64 (x3 + 1))) else (some false))))) else ((sennitref01_Line.f k (rdOf ByteArray.empty x0 x3)).bind fun t112 => (if t112 = true then (sennitref01_May.l0 k x0 (wrap64 (x3 + 1))) else (some false)))) else (none)) else (if 0 ≤ x3 then ((sennitref01_Line.f k (rdOf ByteArray.empty x0 x3)).bind fun t114 => (if t114 = true then (sennitref01_May.l0 k x0 (wrap64 (x3 + 1))) else (some false))) else (none))) else (some true)
def sennitref01_May.f (k : Nat) (l0 : List ByteArray) : Option (Bool) := sennitref01_May.l0 k l0 0
set_option maxHeartbeats 8000000 in
set_option maxRecDepth 100000 in
theorem sennitref01_May.calls (k : Nat) (A0 : Option Addr) (c0 : Nat) (l0 : List ByteArray) (r : Bool) (w : World) (hr0 : Kd.C Kd.string w A0 l0.length l0) (hc0 : l0.length ≤ c0) (h : sennitref01_May.f k l0 = some r) :
    Calls Tryz.prog 28 #[.slice A0 l0.length c0] w fun e w' => e = .returned (.bool r) ∧ Drawn0 w w' := by
  have HR0 := Aside0.mk hr0
  have HC0 := Aside0.mk hc0
  clear hr0 hc0
  have H : (sennitref01_May.l0 k l0 0) = some r := h
  clear h
  have H' := Aside0.mk H
  clear H
  go_enter Tryz.func28, Tryz.ntmps28
  go_wp2
  go_loopg [3] k (fun kq v3 w' => ∃ (x3_1 : Int), v3 = .int .i64 x3_1 ∧ Aside0 (sennitref01_May.l0 kq l0 x3_1 = some r) ∧ Aside0 (kq ≤ k) ∧ Drawn0 w w')
  case atStart => exact ⟨(0), (by first | rfl | (simp; done) | (simp [*]; done)), H', ⟨Nat.le_refl _⟩, by repeat (first | exact Drawn0.refl _ | apply Drawn0.step)⟩
  case round =>
    clear H'
    obtain ⟨x3_1, rfl, HA, HK1, ⟨m1, rfl⟩⟩ := hrel
    cases gk with
    | zero => exact absurd HA.out (by simp [sennitref01_May.l0])
    | succ k1 =>
      have H := HA.out
      clear HA
      simp only [sennitref01_May.l0] at H
      by_cases c2 : x3_1 < (l0.length : Int)
      · rw [if_pos c2] at H
        have c2b0 : decide (x3_1 < (l0.length : Int)) = true := decide_eq_true c2
        clear c2
        by_cases c3 : x3_1 = (wrap64 ((l0.length : Int) - 1))
        · rw [if_pos c3] at H
          have c3b0 : (x3_1 == (wrap64 ((l0.length : Int) - 1))) = true := beq_iff_eq.mpr c3
          have c3b1 : (x3_1 != (wrap64 ((l0.length : Int) - 1))) = false := bne_eq_false_iff_eq.mpr c3
          clear c3
          by_cases c4 : 0 ≤ x3_1
          · rw [if_pos c4] at H
            have c4b0 : decide (0 ≤ x3_1) = true := decide_eq_true c4
            clear c4
            by_cases c5 : ((rdOf ByteArray.empty l0 x3_1).size : Int) > 0
            · rw [if_pos c5] at H
              have c5b0 : decide (0 < ((rdOf ByteArray.empty l0 x3_1).size : Int)) = true := decide_eq_true c5
              have c5b1 : decide (0 < (rdOf ByteArray.empty l0 x3_1).size) = true := decide_eq_true (by omega)
              clear c5
              replace H := Option.bind_eq_some_iff.mp H
              obtain ⟨t108, A60, H⟩ := H
              replace H : (if t108 = 0 then (sennitref01_May.l0 k1 l0 (wrap64 (x3_1 + 1))) else ((sennitref01_Line.f k1 (rdOf ByteArray.empty l0 x3_1)).bind fun t110 => (if t110 = true then (sennitref01_May.l0 k1 l0 (wrap64 (x3_1 + 1))) else (some false)))) = some r := H
              have A6 := Aside0.mk A60
              clear A60
              by_cases c7 : t108 = 0
              · rw [if_pos c7] at H
                have c7b0 : (t108 == 0) = true := beq_iff_eq.mpr c7
                have c7b1 : (t108 != 0) = false := bne_eq_false_iff_eq.mpr c7
                clear c7
                have H' := Aside0.mk H
                clear H
                have p106 : 0 ≤ (x3_1 : Int) := of_decide_eq_true (by first | (with_reducible assumption) | assumption)
                have q106 : x3_1 < (l0.length : Int) := of_decide_eq_true (by first | (with_reducible assumption) | assumption)
                obtain ⟨ad106, e106, hx106_0⟩ := Kd.at_string HR0.out x3_1 p106 q106
                cases e106
                replace p106 := eq_true p106
                replace q106 := eq_true q106
                have p107 : 0 ≤ (x3_1 : Int) := of_decide_eq_true (by first | (with_reducible assumption) | assumption)
                have q107 : x3_1 < (l0.length : Int) := of_decide_eq_true (by first | (with_reducible assumption) | assumption)
                obtain ⟨ad107, e107, hx107_0⟩ := Kd.at_string HR0.out x3_1 p107 q107
                obtain rfl : ad106 = ad107 := (by injection e107)
                replace p107 := eq_true p107
                replace q107 := eq_true q107
                go_wp2_with (first | (go_at_call 54; (with_reducible refine (sennitref01_feeds.calls k1 (rdOf ByteArray.empty l0 x3_1) t108 _ A6.out).mono ?_); rintro e w' ⟨rfl, ⟨nd, rfl⟩⟩))
                go_roundg k1
                case measure => have := HK1.out; omega
                case rel => exact ⟨(wrap64 (x3_1 + 1)), (by first | rfl | (simp; done) | (simp [*]; done)), H', ⟨by have := HK1.out; omega⟩, by repeat (first | exact Drawn0.refl _ | apply Drawn0.step)⟩
              · rw [if_neg c7] at H
                have c7b0 : (t108 == 0) = false := beq_eq_false_iff_ne.mpr c7
                have c7b1 : (t108 != 0) = true := bne_iff_ne.mpr c7
                replace H := Option.bind_eq_some_iff.mp H
                obtain ⟨t110, A80, H⟩ := H
                replace H : (if t110 = true then (sennitref01_May.l0 k1 l0 (wrap64 (x3_1 + 1))) else (some false)) = some r := H
                have A8 := Aside0.mk A80
                clear A80
                by_cases c9 : t110 = true
                · subst c9
                  have H1 : (sennitref01_May.l0 k1 l0 (wrap64 (x3_1 + 1))) = some r := by rw [if_pos rfl] at H; exact H
                  clear H
                  have H := H1
                  clear H1
                  have H' := Aside0.mk H
                  clear H
                  have p106 : 0 ≤ (x3_1 : Int) := of_decide_eq_true (by first | (with_reducible assumption) | assumption)
                  have q106 : x3_1 < (l0.length : Int) := of_decide_eq_true (by first | (with_reducible assumption) | assumption)
                  obtain ⟨ad106, e106, hx106_0⟩ := Kd.at_string HR0.out x3_1 p106 q106
                  cases e106
                  replace p106 := eq_true p106
                  replace q106 := eq_true q106
                  have p107 : 0 ≤ (x3_1 : Int) := of_decide_eq_true (by first | (with_reducible assumption) | assumption)
                  have q107 : x3_1 < (l0.length : Int) := of_decide_eq_true (by first | (with_reducible assumption) | assumption)
                  obtain ⟨ad107, e107, hx107_0⟩ := Kd.at_string HR0.out x3_1 p107 q107
                  obtain rfl : ad106 = ad107 := (by injection e107)
                  replace p107 := eq_true p107
                  replace q107 := eq_true q107
                  go_wp2_with (first | (go_at_call 54; (with_reducible refine (sennitref01_feeds.calls k1 (rdOf ByteArray.empty l0 x3_1) t108 _ A6.out).mono ?_); rintro e w' ⟨rfl, ⟨nd, rfl⟩⟩; have p109 : 0 ≤ (x3_1 : Int) := of_decide_eq_true (by first | (with_reducible assumption) | assumption); have q109 : x3_1 < (l0.length : Int) := of_decide_eq_true (by first | (with_reducible assumption) | assumption); obtain ⟨ad109, e109, hx109_0⟩ := Kd.at_string HR0.out x3_1 p109 q109; obtain rfl : ad106 = ad109 := (by injection e109); replace p109 := eq_true p109; replace q109 := eq_true q109) | (go_at_call 55; (with_reducible refine (sennitref01_Line.calls k1 (rdOf ByteArray.empty l0 x3_1) true _ A8.out).mono ?_); rintro e w' ⟨rfl, ⟨nd, rfl⟩⟩))
                  go_roundg k1
                  case measure => have := HK1.out; omega
                  case rel => exact ⟨(wrap64 (x3_1 + 1)), (by first | rfl | (simp; done) | (simp [*]; done)), H', ⟨by have := HK1.out; omega⟩, by repeat (first | exact Drawn0.refl _ | apply Drawn0.step)⟩
                · replace c9 := Bool.eq_false_iff.mpr c9
                  subst c9
                  have H1 : (some false) = some r := by rw [if_neg (show ¬ (false = true) by decide)] at H; exact H
                  clear H
                  have H := H1
                  clear H1
                  obtain rfl := Option.some.inj H
                  have p106 : 0 ≤ (x3_1 : Int) := of_decide_eq_true (by first | (with_reducible assumption) | assumption)
                  have q106 : x3_1 < (l0.length : Int) := of_decide_eq_true (by first | (with_reducible assumption) | assumption)
                  obtain ⟨ad106, e106, hx106_0⟩ := Kd.at_string HR0.out x3_1 p106 q106
                  cases e106
                  replace p106 := eq_true p106
                  replace q106 := eq_true q106
                  have p107 : 0 ≤ (x3_1 : Int) := of_decide_eq_true (by first | (with_reducible assumption) | assumption)
                  have q107 : x3_1 < (l0.length : Int) := of_decide_eq_true (by first | (with_reducible assumption) | assumption)
                  obtain ⟨ad107, e107, hx107_0⟩ := Kd.at_string HR0.out x3_1 p107 q107
                  obtain rfl : ad106 = ad107 := (by injection e107)
                  replace p107 := eq_true p107
                  replace q107 := eq_true q107
                  go_wp2_with (first | (go_at_call 54; (with_reducible refine (sennitref01_feeds.calls k1 (rdOf ByteArray.empty l0 x3_1) t108 _ A6.out).mono ?_); rintro e w' ⟨rfl, ⟨nd, rfl⟩⟩; have p109 : 0 ≤ (x3_1 : Int) := of_decide_eq_true (by first | (with_reducible assumption) | assumption); have q109 : x3_1 < (l0.length : Int) := of_decide_eq_true (by first | (with_reducible assumption) | assumption); obtain ⟨ad109, e109, hx109_0⟩ := Kd.at_string HR0.out x3_1 p109 q109; obtain rfl : ad106 = ad109 := (by injection e109); replace p109 := eq_true p109; replace q109 := eq_true q109) | (go_at_call 55; (with_reducible refine (sennitref01_Line.calls k1 (rdOf ByteArray.empty l0 x3_1) false _ A8.out).mono ?_); rintro e w' ⟨rfl, ⟨nd, rfl⟩⟩))
                  go_ret
                  exact ⟨by first | rfl | (simp; done) | (simp [*]; done), by repeat (first | exact Drawn0.refl _ | apply Drawn0.step)⟩
            · rw [if_neg c5] at H
              have c5b0 : decide (0 < ((rdOf ByteArray.empty l0 x3_1).size : Int)) = false := decide_eq_false c5
              have c5b1 : decide (0 < (rdOf ByteArray.empty l0 x3_1).size) = false := decide_eq_false (by omega)
              clear c5
              replace H := Option.bind_eq_some_iff.mp H
              obtain ⟨t112, A100, H⟩ := H
              replace H : (if t112 = true then (sennitref01_May.l0 k1 l0 (wrap64 (x3_1 + 1))) else (some false)) = some r := H
              have A10 := Aside0.mk A100
              clear A100
              by_cases c11 : t112 = true
              · subst c11
                have H1 : (sennitref01_May.l0 k1 l0 (wrap64 (x3_1 + 1))) = some r := by rw [if_pos rfl] at H; exact H
                clear H
                have H := H1
                clear H1
                have H' := Aside0.mk H
                clear H
                have p106 : 0 ≤ (x3_1 : Int) := of_decide_eq_true (by first | (with_reducible assumption) | assumption)
                have q106 : x3_1 < (l0.length : Int) := of_decide_eq_true (by first | (with_reducible assumption) | assumption)
                obtain ⟨ad106, e106, hx106_0⟩ := Kd.at_string HR0.out x3_1 p106 q106
                cases e106
                replace p106 := eq_true p106
                replace q106 := eq_true q106
                have p111 : 0 ≤ (x3_1 : Int) := of_decide_eq_true (by first | (with_reducible assumption) | assumption)
                have q111 : x3_1 < (l0.length : Int) := of_decide_eq_true (by first | (with_reducible assumption) | assumption)
                obtain ⟨ad111, e111, hx111_0⟩ := Kd.at_string HR0.out x3_1 p111 q111
                obtain rfl : ad106 = ad111 := (by injection e111)
                replace p111 := eq_true p111
                replace q111 := eq_true q111
                go_wp2_with (first | (go_at_call 55; (with_reducible refine (sennitref01_Line.calls k1 (rdOf ByteArray.empty l0 x3_1) true _ A10.out).mono ?_); rintro e w' ⟨rfl, ⟨nd, rfl⟩⟩))
                go_roundg k1
                case measure => have := HK1.out; omega
                case rel => exact ⟨(wrap64 (x3_1 + 1)), (by first | rfl | (simp; done) | (simp [*]; done)), H', ⟨by have := HK1.out; omega⟩, by repeat (first | exact Drawn0.refl _ | apply Drawn0.step)⟩
              · replace c11 := Bool.eq_false_iff.mpr c11
                subst c11
                have H1 : (some false) = some r := by rw [if_neg (show ¬ (false = true) by decide)] at H; exact H
                clear H
                have H := H1
                clear H1
                obtain rfl := Option.some.inj H
                have p106 : 0 ≤ (x3_1 : Int) := of_decide_eq_true (by first | (with_reducible assumption) | assumption)
                have q106 : x3_1 < (l0.length : Int) := of_decide_eq_true (by first | (with_reducible assumption) | assumption)
                obtain ⟨ad106, e106, hx106_0⟩ := Kd.at_string HR0.out x3_1 p106 q106
                cases e106
                replace p106 := eq_true p106
                replace q106 := eq_true q106
                have p111 : 0 ≤ (x3_1 : Int) := of_decide_eq_true (by first | (with_reducible assumption) | assumption)
                have q111 : x3_1 < (l0.length : Int) := of_decide_eq_true (by first | (with_reducible assumption) | assumption)
                obtain ⟨ad111, e111, hx111_0⟩ := Kd.at_string HR0.out x3_1 p111 q111
                obtain rfl : ad106 = ad111 := (by injection e111)
                replace p111 := eq_true p111
                replace q111 := eq_true q111
                go_wp2_with (first | (go_at_call 55; (with_reducible refine (sennitref01_Line.calls k1 (rdOf ByteArray.empty l0 x3_1) false _ A10.out).mono ?_); rintro e w' ⟨rfl, ⟨nd, rfl⟩⟩))
                go_ret
                exact ⟨by first | rfl | (simp; done) | (simp [*]; done), by repeat (first | exact Drawn0.refl _ | apply Drawn0.step)⟩
          · rw [if_neg c4] at H
            exact absurd H (by simp)
        · rw [if_neg c3] at H
          have c3b0 : (x3_1 == (wrap64 ((l0.length : Int) - 1))) = false := beq_eq_false_iff_ne.mpr c3
          have c3b1 : (x3_1 != (wrap64 ((l0.length : Int) - 1))) = true := bne_iff_ne.mpr c3
          by_cases c12 : 0 ≤ x3_1
          · rw [if_pos c12] at H
            have c12b0 : decide (0 ≤ x3_1) = true := decide_eq_true c12
            clear c12
            replace H := Option.bind_eq_some_iff.mp H
            obtain ⟨t114, A130, H⟩ := H
            replace H : (if t114 = true then (sennitref01_May.l0 k1 l0 (wrap64 (x3_1 + 1))) else (some false)) = some r := H
            have A13 := Aside0.mk A130
            clear A130
            by_cases c14 : t114 = true
            · subst c14
              have H1 : (sennitref01_May.l0 k1 l0 (wrap64 (x3_1 + 1))) = some r := by rw [if_pos rfl] at H; exact H
              clear H
              have H := H1
              clear H1
              have H' := Aside0.mk H
              clear H
              have p113 : 0 ≤ (x3_1 : Int) := of_decide_eq_true (by first | (with_reducible assumption) | assumption)
              have q113 : x3_1 < (l0.length : Int) := of_decide_eq_true (by first | (with_reducible assumption) | assumption)
              obtain ⟨ad113, e113, hx113_0⟩ := Kd.at_string HR0.out x3_1 p113 q113
              cases e113
              replace p113 := eq_true p113
              replace q113 := eq_true q113
              go_wp2_with (first | (go_at_call 55; (with_reducible refine (sennitref01_Line.calls k1 (rdOf ByteArray.empty l0 x3_1) true _ A13.out).mono ?_); rintro e w' ⟨rfl, ⟨nd, rfl⟩⟩))
              go_roundg k1
              case measure => have := HK1.out; omega
              case rel => exact ⟨(wrap64 (x3_1 + 1)), (by first | rfl | (simp; done) | (simp [*]; done)), H', ⟨by have := HK1.out; omega⟩, by repeat (first | exact Drawn0.refl _ | apply Drawn0.step)⟩
            · replace c14 := Bool.eq_false_iff.mpr c14
              subst c14
              have H1 : (some false) = some r := by rw [if_neg (show ¬ (false = true) by decide)] at H; exact H
              clear H
              have H := H1
              clear H1
              obtain rfl := Option.some.inj H
              have p113 : 0 ≤ (x3_1 : Int) := of_decide_eq_true (by first | (with_reducible assumption) | assumption)
              have q113 : x3_1 < (l0.length : Int) := of_decide_eq_true (by first | (with_reducible assumption) | assumption)
              obtain ⟨ad113, e113, hx113_0⟩ := Kd.at_string HR0.out x3_1 p113 q113
              cases e113
              replace p113 := eq_true p113
              replace q113 := eq_true q113
              go_wp2_with (first | (go_at_call 55; (with_reducible refine (sennitref01_Line.calls k1 (rdOf ByteArray.empty l0 x3_1) false _ A13.out).mono ?_); rintro e w' ⟨rfl, ⟨nd, rfl⟩⟩))
              go_ret
              exact ⟨by first | rfl | (simp; done) | (simp [*]; done), by repeat (first | exact Drawn0.refl _ | apply Drawn0.step)⟩
          · rw [if_neg c12] at H
            exact absurd H (by simp)
      · rw [if_neg c2] at H
        have c2b0 : decide (x3_1 < (l0.length : Int)) = false := decide_eq_false c2
        clear c2
        obtain rfl := Option.some.inj H
        go_wp2
        go_ret
        exact ⟨by first | rfl | (simp; done) | (simp [*]; done), by repeat (first | exact Drawn0.refl _ | apply Drawn0.step)⟩

end Go.Proofs.YtbbhdbeaikclcaaGreat.X
-- part XRn2
namespace Go.Proofs.YtbbhdbeaikclcaaGreat.X
open Go.RowKit Go.Proofs.YtbbhdbeaikclcaaGreatW.PrintWords Go.Proofs.YtbbhdbeaikclcaaGreatW.PrintLast Go.Proofs.YtbbhdbeaikclcaaGreatW.PrintMore
attribute [local go_sem] max2_int min2_int max_two min_two max_three min_three max_four min_four   -- for this text's walks alone
set_option linter.unusedVariables false
set_option linter.unusedSimpArgs false
mutual
def sennitref08_wrong.j0 : Nat → List ByteArray → List (List ByteArray) → Bool → Option (Int)
  | 0, _, _, _ => none
  | k + 1, x0, x1, x15 => if x15 = true then (some 1) else ((sennitref01_May.f k x0).bind fun t115 => (sennitref08_wrong.l0 k x1 t115 (decide ((x0.length : Int) > 2000)) 0))
def sennitref08_wrong.l0 : Nat → List (List ByteArray) → Bool → Bool → Int → Option (Int)
  | 0, _, _, _, _ => none
  | k + 1, x1, x5, x6, x7 => if x7 < (x1.length : Int) then (if x5 = true then (if 0 ≤ x7 then ((sennitref01_May.f k (rd_L1 x1 x7)).bind fun t117 => (if x6 = true then (sennitref08_wrong.l0 k x1 t117 true (wrap64 (x7 + 1))) else (sennitref08_wrong.l0 k x1 t117 (decide (((rd_L1 x1 x7).length : Int) > 2000)) (wrap64 (x7 + 1))))) else (none)) else (if x6 = true then (sennitref08_wrong.l0 k x1 false true (wrap64 (x7 + 1))) else (if 0 ≤ x7 then (sennitref08_wrong.l0 k x1 false (decide (((rd_L1 x1 x7).length : Int) > 2000)) (wrap64 (x7 + 1))) else (none)))) else (if x5 = true then (if x6 = true then (some 4) else (some 0)) else (some 2))
end
def sennitref08_wrong.f (k : Nat) (l0 : List ByteArray) (l1 : List (List ByteArray)) : Option (Int) := if (l1.length : Int) = 0 then (sennitref08_wrong.j0 k l0 l1 true) else (sennitref08_wrong.j0 k l0 l1 (decide ((l1.length : Int) > 16)))
set_option maxHeartbeats 8000000 in
set_option maxRecDepth 100000 in
theorem sennitref08_wrong.calls (k : Nat) (A0 : Option Addr) (c0 : Nat) (l0 : List ByteArray) (A1 : Option Addr) (c1 : Nat) (l1 : List (List ByteArray)) (r : Int) (w : World) (hr0 : Kd.C Kd.string w A0 l0.length l0) (hc0 : l0.length ≤ c0) (hr1 : Kd.C (Kd.slice 9 Kd.string) w A1 l1.length l1) (hc1 : l1.length ≤ c1) (h : sennitref08_wrong.f k l0 l1 = some r) :
    Calls Tryz.prog 39 #[.slice A0 l0.length c0, .slice A1 l1.length c1] w fun e w' => e = .returned (.int .i64 r) ∧ Drawn0 w w' := by
  have HR0 := Aside0.mk hr0
  have HC0 := Aside0.mk hc0
  clear hr0 hc0
  have HR1 := Aside0.mk hr1
  have HC1 := Aside0.mk hc1
  clear hr1 hc1
  have H : (if (l1.length : Int) = 0 then (sennitref08_wrong.j0 k l0 l1 true) else (sennitref08_wrong.j0 k l0 l1 (decide ((l1.length : Int) > 16)))) = some r := h
  clear h
  have HC3 := Aside0.mk H
  clear H
  go_enter Tryz.func39, Tryz.ntmps39
  go_upto_region 1 with (fail)
  go_cut [15] (fun v15 wc => ∃ (kq : Nat) (x15_2 : Bool), v15 = .bool x15_2 ∧ Aside0 (sennitref08_wrong.j0 kq l0 l1 x15_2 = some r) ∧ Aside0 (kq ≤ k) ∧ Drawn0 w wc)
  case first =>
    have H := HC3.out
    clear HC3
    by_cases c4 : (l1.length : Int) = 0
    · rw [if_pos c4] at H
      have c4b0 : ((l1.length : Int) == 0) = true := beq_iff_eq.mpr c4
      have c4b1 : ((l1.length : Int) != 0) = false := bne_eq_false_iff_eq.mpr c4
      clear c4
      (first | rw [c4b0] | (simp only [i64_w, i32_w]; rw [c4b0]) | skip)
      have H' := Aside0.mk H
      clear H
      go_wp2
      go_meet
      case rel => exact ⟨_, (true), (by first | rfl | (simp; done) | (simp [*]; done)), H', ⟨by first | omega | exact Nat.le_refl _⟩, by repeat (first | exact Drawn0.refl _ | apply Drawn0.step)⟩
    · rw [if_neg c4] at H
      have c4b0 : ((l1.length : Int) == 0) = false := beq_eq_false_iff_ne.mpr c4
      have c4b1 : ((l1.length : Int) != 0) = true := bne_iff_ne.mpr c4
      have c4b2 : ¬ (l1 = []) := fun h_ => c4 (by rw [h_]; rfl)
      (first | rw [c4b0] | (simp only [i64_w, i32_w]; rw [c4b0]) | skip)
      have H' := Aside0.mk H
      clear H
      go_wp2
      go_meet
      case rel => exact ⟨_, (decide ((l1.length : Int) > 16)), (by first | rfl | (simp; done) | (simp [*]; done)), H', ⟨by first | omega | exact Nat.le_refl _⟩, by repeat (first | exact Drawn0.refl _ | apply Drawn0.step)⟩
  case rest =>
    clear HC3
    try clear c1
    try clear p2
    try clear c3
    try clear c4
    try clear c4b0
    try clear c4b1
    try clear c4b2
    obtain ⟨kq, x15_2, rfl, HA, HJ2, ⟨mc2, rfl⟩⟩ := hcut
    cases kq with
    | zero => exact absurd HA.out (by simp [sennitref08_wrong.j0])
    | succ kj2 =>
      have H := HA.out
      clear HA
      simp only [sennitref08_wrong.j0] at H
      by_cases c5 : x15_2 = true
      · subst c5
        have H1 : (some 1) = some r := by rw [if_pos rfl] at H; exact H
        clear H
        have H := H1
        clear H1
        obtain rfl := Option.some.inj H
        go_wp2
        go_ret
        exact ⟨by first | rfl | (simp; done) | (simp [*]; done), by repeat (first | exact Drawn0.refl _ | apply Drawn0.step)⟩
      · replace c5 := Bool.eq_false_iff.mpr c5
        subst c5
        have H1 : ((sennitref01_May.f kj2 l0).bind fun t115 => (sennitref08_wrong.l0 kj2 l1 t115 (decide ((l0.length : Int) > 2000)) 0)) = some r := by rw [if_neg (show ¬ (false = true) by decide)] at H; exact H
        clear H
        have H := H1
        clear H1
        replace H := Option.bind_eq_some_iff.mp H
        obtain ⟨t115, A60, H⟩ := H
        replace H : (sennitref08_wrong.l0 kj2 l1 t115 (decide ((l0.length : Int) > 2000)) 0) = some r := H
        have A6 := Aside0.mk A60
        clear A60
        have H' := Aside0.mk H
        clear H
        go_wp2_with (first | ((with_reducible refine gate_callee (f := 28) rfl ?_); refine goesL_ (some 17) rfl rfl Tryz.func28 (by kernel_rfl) rfl #[.slice A0 l0.length c0] rfl (by (try simp only [List.map_toArray, List.map_cons, List.map_nil]); first | done | rfl | (simp only [List.length_drop, List.length_take]; rfl)) ?_; (with_reducible refine (sennitref01_May.calls kj2 _ _ l0 t115 _ ?side1 ?side2 A6.out).mono ?_); (case side1 => repeat (first | exact HR0.out | (with_reducible refine Kd.C_alloc ?_ _) | (with_reducible refine Kd.C_drewN ?_ _) | (with_reducible refine Kd.C_drew ?_))); (case side2 => exact HC0.out); rintro e w' ⟨rfl, ⟨nd, rfl⟩⟩; refine ⟨_, rfl, ?_⟩))
        go_loopg [5, 6, 7] kj2 (fun kq v5 v6 v7 w' => ∃ (x5_2 : Bool) (x6_2 : Bool) (x7_2 : Int), v5 = .bool x5_2 ∧ v6 = .bool x6_2 ∧ v7 = .int .i64 x7_2 ∧ Aside0 (sennitref08_wrong.l0 kq l1 x5_2 x6_2 x7_2 = some r) ∧ Aside0 (kq ≤ kj2) ∧ Drawn0 w w')
        case atStart => exact ⟨(t115), (decide ((l0.length : Int) > 2000)), (0), (by first | rfl | (simp; done) | (simp [*]; done)), (by first | rfl | (simp; done) | (simp [*]; done)), (by first | rfl | (simp; done) | (simp [*]; done)), H', ⟨Nat.le_refl _⟩, by repeat (first | exact Drawn0.refl _ | apply Drawn0.step)⟩
        case round =>
          clear H'
          try clear c1
          try clear c2
          try clear p2
          try clear c3
          try clear c4
          try clear c4b0
          try clear c4b1
          try clear c4b2
          try clear c5
          try clear p2
          obtain ⟨x5_2, x6_2, x7_2, rfl, rfl, rfl, HA, HK2, ⟨m2, rfl⟩⟩ := hrel
          cases gk with
          | zero => exact absurd HA.out (by simp [sennitref08_wrong.l0])
          | succ k2 =>
            have H := HA.out
            clear HA
            simp only [sennitref08_wrong.l0] at H
            by_cases c7 : x7_2 < (l1.length : Int)
            · rw [if_pos c7] at H
              have c7b0 : decide (x7_2 < (l1.length : Int)) = true := decide_eq_true c7
              clear c7
              by_cases c8 : x5_2 = true
              · subst c8
                have H1 : (if 0 ≤ x7_2 then ((sennitref01_May.f k2 (rd_L1 l1 x7_2)).bind fun t117 => (if x6_2 = true then (sennitref08_wrong.l0 k2 l1 t117 true (wrap64 (x7_2 + 1))) else (sennitref08_wrong.l0 k2 l1 t117 (decide (((rd_L1 l1 x7_2).length : Int) > 2000)) (wrap64 (x7_2 + 1))))) else (none)) = some r := by rw [if_pos rfl] at H; exact H
                clear H
                have H := H1
                clear H1
                by_cases c9 : 0 ≤ x7_2
                · rw [if_pos c9] at H
                  have c9b0 : decide (0 ≤ x7_2) = true := decide_eq_true c9
                  clear c9
                  replace H := Option.bind_eq_some_iff.mp H
                  obtain ⟨t117, A100, H⟩ := H
                  replace H : (if x6_2 = true then (sennitref08_wrong.l0 k2 l1 t117 true (wrap64 (x7_2 + 1))) else (sennitref08_wrong.l0 k2 l1 t117 (decide (((rd_L1 l1 x7_2).length : Int) > 2000)) (wrap64 (x7_2 + 1)))) = some r := H
                  have A10 := Aside0.mk A100
                  clear A100
                  by_cases c11 : x6_2 = true
                  · subst c11
                    have H1 : (sennitref08_wrong.l0 k2 l1 t117 true (wrap64 (x7_2 + 1))) = some r := by rw [if_pos rfl] at H; exact H
                    clear H
                    have H := H1
                    clear H1
                    have H' := Aside0.mk H
                    clear H
                    have p116 : 0 ≤ (x7_2 : Int) := of_decide_eq_true (by first | (with_reducible assumption) | assumption)
                    have q116 : x7_2 < (l1.length : Int) := of_decide_eq_true (by first | (with_reducible assumption) | assumption)
                    obtain ⟨ad116, A116_0, c116_0, e116, hx116_0, hl116_0, hi116_0⟩ := at_L1 HR1.out x7_2 p116 q116
                    cases e116
                    have HR116_0 := Aside0.mk hi116_0
                    have HC116_0 := Aside0.mk hl116_0
                    clear hi116_0 hl116_0
                    replace p116 := eq_true p116
                    replace q116 := eq_true q116
                    go_wp2_with (first | (go_at_call 28; (with_reducible refine (sennitref01_May.calls k2 _ _ (rd_L1 l1 x7_2) t117 _ ?side1 ?side2 A10.out).mono ?_); (case side1 => repeat (first | exact HR116_0.out | (with_reducible refine Kd.C_alloc ?_ _) | (with_reducible refine Kd.C_drewN ?_ _) | (with_reducible refine Kd.C_drew ?_))); (case side2 => exact HC116_0.out); rintro e w' ⟨rfl, ⟨nd, rfl⟩⟩))
                    go_roundg k2
                    case measure => have := HJ2.out; have := HK2.out; omega
                    case rel => exact ⟨(t117), (true), (wrap64 (x7_2 + 1)), (by first | rfl | (simp; done) | (simp [*]; done)), (by first | rfl | (simp; done) | (simp [*]; done)), (by first | rfl | (simp; done) | (simp [*]; done)), H', ⟨by have := HJ2.out; have := HK2.out; omega⟩, by repeat (first | exact Drawn0.refl _ | apply Drawn0.step)⟩
                  · replace c11 := Bool.eq_false_iff.mpr c11
                    subst c11
                    have H1 : (sennitref08_wrong.l0 k2 l1 t117 (decide (((rd_L1 l1 x7_2).length : Int) > 2000)) (wrap64 (x7_2 + 1))) = some r := by rw [if_neg (show ¬ (false = true) by decide)] at H; exact H
                    clear H
                    have H := H1
                    clear H1
                    have H' := Aside0.mk H
                    clear H
                    have p116 : 0 ≤ (x7_2 : Int) := of_decide_eq_true (by first | (with_reducible assumption) | assumption)
                    have q116 : x7_2 < (l1.length : Int) := of_decide_eq_true (by first | (with_reducible assumption) | assumption)
                    obtain ⟨ad116, A116_0, c116_0, e116, hx116_0, hl116_0, hi116_0⟩ := at_L1 HR1.out x7_2 p116 q116
                    cases e116
                    have HR116_0 := Aside0.mk hi116_0
                    have HC116_0 := Aside0.mk hl116_0
                    clear hi116_0 hl116_0
                    replace p116 := eq_true p116
                    replace q116 := eq_true q116
                    go_wp2_with (first | (go_at_call 28; (with_reducible refine (sennitref01_May.calls k2 _ _ (rd_L1 l1 x7_2) t117 _ ?side1 ?side2 A10.out).mono ?_); (case side1 => repeat (first | exact HR116_0.out | (with_reducible refine Kd.C_alloc ?_ _) | (with_reducible refine Kd.C_drewN ?_ _) | (with_reducible refine Kd.C_drew ?_))); (case side2 => exact HC116_0.out); rintro e w' ⟨rfl, ⟨nd, rfl⟩⟩; have p118 : 0 ≤ (x7_2 : Int) := of_decide_eq_true (by first | (with_reducible assumption) | assumption); have q118 : x7_2 < (l1.length : Int) := of_decide_eq_true (by first | (with_reducible assumption) | assumption); obtain ⟨ad118, A118_0, c118_0, e118, hx118_0, hl118_0, hi118_0⟩ := at_L1 HR1.out x7_2 p118 q118; obtain rfl : ad116 = ad118 := (by injection e118); have HR118_0 := Aside0.mk hi118_0; have HC118_0 := Aside0.mk hl118_0; clear hi118_0 hl118_0; replace p118 := eq_true p118; replace q118 := eq_true q118; have ea_ := Option.some.inj (hx116_0.symm.trans hx118_0); injection ea_ with ea_ en_ ec_; subst ea_; subst ec_; clear en_))
                    go_roundg k2
                    case measure => have := HJ2.out; have := HK2.out; omega
                    case rel => exact ⟨(t117), (decide (((rd_L1 l1 x7_2).length : Int) > 2000)), (wrap64 (x7_2 + 1)), (by first | rfl | (simp; done) | (simp [*]; done)), (by first | rfl | (simp; done) | (simp [*]; done)), (by first | rfl | (simp; done) | (simp [*]; done)), H', ⟨by have := HJ2.out; have := HK2.out; omega⟩, by repeat (first | exact Drawn0.refl _ | apply Drawn0.step)⟩
                · rw [if_neg c9] at H
                  exact absurd H (by simp)
              · replace c8 := Bool.eq_false_iff.mpr c8
                subst c8
                have H1 : (if x6_2 = true then (sennitref08_wrong.l0 k2 l1 false true (wrap64 (x7_2 + 1))) else (if 0 ≤ x7_2 then (sennitref08_wrong.l0 k2 l1 false (decide (((rd_L1 l1 x7_2).length : Int) > 2000)) (wrap64 (x7_2 + 1))) else (none))) = some r := by rw [if_neg (show ¬ (false = true) by decide)] at H; exact H
                clear H
                have H := H1
                clear H1
                by_cases c12 : x6_2 = true
                · subst c12
                  have H1 : (sennitref08_wrong.l0 k2 l1 false true (wrap64 (x7_2 + 1))) = some r := by rw [if_pos rfl] at H; exact H
                  clear H
                  have H := H1
                  clear H1
                  have H' := Aside0.mk H
                  clear H
                  go_wp2
                  go_roundg k2
                  case measure => have := HJ2.out; have := HK2.out; omega
                  case rel => exact ⟨(false), (true), (wrap64 (x7_2 + 1)), (by first | rfl | (simp; done) | (simp [*]; done)), (by first | rfl | (simp; done) | (simp [*]; done)), (by first | rfl | (simp; done) | (simp [*]; done)), H', ⟨by have := HJ2.out; have := HK2.out; omega⟩, by repeat (first | exact Drawn0.refl _ | apply Drawn0.step)⟩
                · replace c12 := Bool.eq_false_iff.mpr c12
                  subst c12
                  have H1 : (if 0 ≤ x7_2 then (sennitref08_wrong.l0 k2 l1 false (decide (((rd_L1 l1 x7_2).length : Int) > 2000)) (wrap64 (x7_2 + 1))) else (none)) = some r := by rw [if_neg (show ¬ (false = true) by decide)] at H; exact H
                  clear H
                  have H := H1
                  clear H1
                  by_cases c13 : 0 ≤ x7_2
                  · rw [if_pos c13] at H
                    have c13b0 : decide (0 ≤ x7_2) = true := decide_eq_true c13
                    clear c13
                    have H' := Aside0.mk H
                    clear H
                    have p119 : 0 ≤ (x7_2 : Int) := of_decide_eq_true (by first | (with_reducible assumption) | assumption)
                    have q119 : x7_2 < (l1.length : Int) := of_decide_eq_true (by first | (with_reducible assumption) | assumption)
                    obtain ⟨ad119, A119_0, c119_0, e119, hx119_0, hl119_0, hi119_0⟩ := at_L1 HR1.out x7_2 p119 q119
                    cases e119
                    have HR119_0 := Aside0.mk hi119_0
                    have HC119_0 := Aside0.mk hl119_0
                    clear hi119_0 hl119_0
                    replace p119 := eq_true p119
                    replace q119 := eq_true q119
                    go_wp2
                    go_roundg k2
                    case measure => have := HJ2.out; have := HK2.out; omega
                    case rel => exact ⟨(false), (decide (((rd_L1 l1 x7_2).length : Int) > 2000)), (wrap64 (x7_2 + 1)), (by first | rfl | (simp; done) | (simp [*]; done)), (by first | rfl | (simp; done) | (simp [*]; done)), (by first | rfl | (simp; done) | (simp [*]; done)), H', ⟨by have := HJ2.out; have := HK2.out; omega⟩, by repeat (first | exact Drawn0.refl _ | apply Drawn0.step)⟩
                  · rw [if_neg c13] at H
                    exact absurd H (by simp)
            · rw [if_neg c7] at H
              have c7b0 : decide (x7_2 < (l1.length : Int)) = false := decide_eq_false c7
              clear c7
              by_cases c14 : x5_2 = true
              · subst c14
                have H1 : (if x6_2 = true then (some 4) else (some 0)) = some r := by rw [if_pos rfl] at H; exact H
                clear H
                have H := H1
                clear H1
                by_cases c15 : x6_2 = true
                · subst c15
                  have H1 : (some 4) = some r := by rw [if_pos rfl] at H; exact H
                  clear H
                  have H := H1
                  clear H1
                  obtain rfl := Option.some.inj H
                  go_wp2
                  go_ret
                  exact ⟨by first | rfl | (simp; done) | (simp [*]; done), by repeat (first | exact Drawn0.refl _ | apply Drawn0.step)⟩
                · replace c15 := Bool.eq_false_iff.mpr c15
                  subst c15
                  have H1 : (some 0) = some r := by rw [if_neg (show ¬ (false = true) by decide)] at H; exact H
                  clear H
                  have H := H1
                  clear H1
                  obtain rfl := Option.some.inj H
                  go_wp2
                  go_ret
                  exact ⟨by first | rfl | (simp; done) | (simp [*]; done), by repeat (first | exact Drawn0.refl _ | apply Drawn0.step)⟩
              · replace c14 := Bool.eq_false_iff.mpr c14
                subst c14
                have H1 : (some 2) = some r := by rw [if_neg (show ¬ (false = true) by decide)] at H; exact H
                clear H
                have H := H1
                clear H1
                obtain rfl := Option.some.inj H
                go_wp2
                go_ret
                exact ⟨by first | rfl | (simp; done) | (simp [*]; done), by repeat (first | exact Drawn0.refl _ | apply Drawn0.step)⟩

def sennitref08_May.f (k : Nat) (l0 : List ByteArray) (l1 : List (List ByteArray)) : Option (Bool) := (sennitref08_Few.f k l0 l1).bind fun t120 => (if t120 = true then ((sennitref08_wrong.f k l0 l1).bind fun t121 => (some (t121 == 0))) else (some false))
set_option maxHeartbeats 8000000 in
set_option maxRecDepth 100000 in
theorem sennitref08_May.calls (k : Nat) (A0 : Option Addr) (c0 : Nat) (l0 : List ByteArray) (A1 : Option Addr) (c1 : Nat) (l1 : List (List ByteArray)) (r : Bool) (w : World) (hr0 : Kd.C Kd.string w A0 l0.length l0) (hc0 : l0.length ≤ c0) (hr1 : Kd.C (Kd.slice 9 Kd.string) w A1 l1.length l1) (hc1 : l1.length ≤ c1) (h : sennitref08_May.f k l0 l1 = some r) :
    Calls Tryz.prog 21 #[.slice A0 l0.length c0, .slice A1 l1.length c1] w fun e w' => e = .returned (.bool r) ∧ Drawn0 w w' := by
  have HR0 := Aside0.mk hr0
  have HC0 := Aside0.mk hc0
  clear hr0 hc0
  have HR1 := Aside0.mk hr1
  have HC1 := Aside0.mk hc1
  clear hr1 hc1
  have H : ((sennitref08_Few.f k l0 l1).bind fun t120 => (if t120 = true then ((sennitref08_wrong.f k l0 l1).bind fun t121 => (some (t121 == 0))) else (some false))) = some r := h
  clear h
  replace H := Option.bind_eq_some_iff.mp H
  obtain ⟨t120, A30, H⟩ := H
  replace H : (if t120 = true then ((sennitref08_wrong.f k l0 l1).bind fun t121 => (some (t121 == 0))) else (some false)) = some r := H
  have A3 := Aside0.mk A30
  clear A30
  by_cases c4 : t120 = true
  · subst c4
    have H1 : ((sennitref08_wrong.f k l0 l1).bind fun t121 => (some (t121 == 0))) = some r := by rw [if_pos rfl] at H; exact H
    clear H
    have H := H1
    clear H1
    replace H := Option.bind_eq_some_iff.mp H
    obtain ⟨t121, A50, H⟩ := H
    replace H : (some (t121 == 0)) = some r := H
    have A5 := Aside0.mk A50
    clear A50
    obtain rfl := Option.some.inj H
    go_enter Tryz.func21, Tryz.ntmps21
    go_wp2_with (first | ((with_reducible refine gate_callee (f := 14) rfl ?_); refine goesL_ (some 7) rfl rfl Tryz.func14 (by kernel_rfl) rfl #[.slice A0 l0.length c0, .slice A1 l1.length c1] rfl (by (try simp only [List.map_toArray, List.map_cons, List.map_nil]); first | done | rfl | (simp only [List.length_drop, List.length_take]; rfl)) ?_; (with_reducible refine (sennitref08_Few.calls k _ _ l0 _ _ l1 true _ ?side1 ?side2 ?side3 ?side4 A3.out).mono ?_); (case side1 => repeat (first | exact HR0.out | (with_reducible refine Kd.C_alloc ?_ _) | (with_reducible refine Kd.C_drewN ?_ _) | (with_reducible refine Kd.C_drew ?_))); (case side2 => exact HC0.out); (case side3 => repeat (first | exact HR1.out | (with_reducible refine Kd.C_alloc ?_ _) | (with_reducible refine Kd.C_drewN ?_ _) | (with_reducible refine Kd.C_drew ?_))); (case side4 => exact HC1.out); rintro e w' ⟨rfl, ⟨nd, rfl⟩⟩; refine ⟨_, rfl, ?_⟩) | (go_at_call 39; (with_reducible refine (sennitref08_wrong.calls k _ _ l0 _ _ l1 t121 _ ?side1 ?side2 ?side3 ?side4 A5.out).mono ?_); (case side1 => repeat (first | exact HR0.out | (with_reducible refine Kd.C_alloc ?_ _) | (with_reducible refine Kd.C_drewN ?_ _) | (with_reducible refine Kd.C_drew ?_))); (case side2 => exact HC0.out); (case side3 => repeat (first | exact HR1.out | (with_reducible refine Kd.C_alloc ?_ _) | (with_reducible refine Kd.C_drewN ?_ _) | (with_reducible refine Kd.C_drew ?_))); (case side4 => exact HC1.out); rintro e w' ⟨rfl, ⟨nd, rfl⟩⟩))
    go_ret
    exact ⟨by first | rfl | (simp; done) | (simp [*]; done), by repeat (first | exact Drawn0.refl _ | apply Drawn0.step)⟩
  · replace c4 := Bool.eq_false_iff.mpr c4
    subst c4
    have H1 : (some false) = some r := by rw [if_neg (show ¬ (false = true) by decide)] at H; exact H
    clear H
    have H := H1
    clear H1
    obtain rfl := Option.some.inj H
    go_enter Tryz.func21, Tryz.ntmps21
    go_wp2_with (first | ((with_reducible refine gate_callee (f := 14) rfl ?_); refine goesL_ (some 7) rfl rfl Tryz.func14 (by kernel_rfl) rfl #[.slice A0 l0.length c0, .slice A1 l1.length c1] rfl (by (try simp only [List.map_toArray, List.map_cons, List.map_nil]); first | done | rfl | (simp only [List.length_drop, List.length_take]; rfl)) ?_; (with_reducible refine (sennitref08_Few.calls k _ _ l0 _ _ l1 false _ ?side1 ?side2 ?side3 ?side4 A3.out).mono ?_); (case side1 => repeat (first | exact HR0.out | (with_reducible refine Kd.C_alloc ?_ _) | (with_reducible refine Kd.C_drewN ?_ _) | (with_reducible refine Kd.C_drew ?_))); (case side2 => exact HC0.out); (case side3 => repeat (first | exact HR1.out | (with_reducible refine Kd.C_alloc ?_ _) | (with_reducible refine Kd.C_drewN ?_ _) | (with_reducible refine Kd.C_drew ?_))); (case side4 => exact HC1.out); rintro e w' ⟨rfl, ⟨nd, rfl⟩⟩; refine ⟨_, rfl, ?_⟩))
    go_ret
    exact ⟨by first | rfl | (simp; done) | (simp [*]; done), by repeat (first | exact Drawn0.refl _ | apply Drawn0.step)⟩

end Go.Proofs.YtbbhdbeaikclcaaGreat.X
-- part XEn1
namespace Go.Proofs.YtbbhdbeaikclcaaGreat.X
open Go.RowKit Go.Proofs.YtbbhdbeaikclcaaGreatW.PrintWords Go.Proofs.YtbbhdbeaikclcaaGreatW.PrintLast Go.Proofs.YtbbhdbeaikclcaaGreatW.PrintMore
attribute [local go_sem] max2_int min2_int max_two min_two max_three min_three max_four min_four   -- for this text's walks alone
set_option linter.unusedVariables false
set_option linter.unusedSimpArgs false
def slices_Equal_string_string.l0 : Nat → List ByteArray → List ByteArray → Int → Int → Option (Bool)
  | 0, _, _, _, _ => none
  | k + 1, x0, x1, x12, x13 => if x13 < x12 then (if 0 ≤ x13 then (if x13 < (x0.length : Int) then (if x13 < (x1.length : Int) then (if (rdOf ByteArray.empty x0 x13).toList = (rdOf ByteArray.empty x1 x13).toList then (slices_Equal_string_string.l0 k x0 x1 x12 (wrap64 (x13 + 1))) else (some false)) else (none)) else (none)) else (none)) else (some true)
def slices_Equal_string_string.f (k : Nat) (l0 : List ByteArray) (l1 : List ByteArray) : Option (Bool) := if (l0.length : Int) = (l1.length : Int) then (slices_Equal_string_string.l0 k l0 l1 (l0.length : Int) 0) else (some false)
set_option maxHeartbeats 8000000 in
set_option maxRecDepth 100000 in
theorem slices_Equal_string_string.calls (k : Nat) (A0 : Option Addr) (c0 : Nat) (l0 : List ByteArray) (A1 : Option Addr) (c1 : Nat) (l1 : List ByteArray) (r : Bool) (w : World) (hr0 : Kd.C Kd.string w A0 l0.length l0) (hc0 : l0.length ≤ c0) (hr1 : Kd.C Kd.string w A1 l1.length l1) (hc1 : l1.length ≤ c1) (h : slices_Equal_string_string.f k l0 l1 = some r) :
    Calls Tryz.prog 114 #[.slice A0 l0.length c0, .slice A1 l1.length c1] w fun e w' => e = .returned (.bool r) ∧ Drawn0 w w' := by
  have HR0 := Aside0.mk hr0
  have HC0 := Aside0.mk hc0
  clear hr0 hc0
  have HR1 := Aside0.mk hr1
  have HC1 := Aside0.mk hc1
  clear hr1 hc1
  have H : (if (l0.length : Int) = (l1.length : Int) then (slices_Equal_string_string.l0 k l0 l1 (l0.length : Int) 0) else (some false)) = some r := h
  clear h
  by_cases c3 : (l0.length : Int) = (l1.length : Int)
  · rw [if_pos c3] at H
    have c3b0 : ((l0.length : Int) == (l1.length : Int)) = true := beq_iff_eq.mpr c3
    have c3b1 : ((l0.length : Int) != (l1.length : Int)) = false := bne_eq_false_iff_eq.mpr c3
    have c3b2 : (l0.length == l1.length) = true := by first | simpa using c3 | (simp at c3 ⊢; omega)
    clear c3
    have H' := Aside0.mk H
    clear H
    go_enter Tryz.func114, Tryz.ntmps114
    go_wp2
    repeat (go_quiet (fail); try go_wp2)
    go_loopg [13] k (fun kq v13 w' => ∃ (x13_1 : Int), v13 = .int .i64 x13_1 ∧ Aside0 (slices_Equal_string_string.l0 kq l0 l1 (l0.length : Int) x13_1 = some r) ∧ Aside0 (kq ≤ k) ∧ Drawn0 w w')
    case atStart => exact ⟨(0), (by first | rfl | (simp; done) | (simp [*]; done)), H', ⟨Nat.le_refl _⟩, by repeat (first | exact Drawn0.refl _ | apply Drawn0.step)⟩
    case round =>
      clear H'
      try clear c1
      try clear p2
      try clear c3
      try clear c3b0
      try clear c3b1
      try clear c3b2
      obtain ⟨x13_1, rfl, HA, HK1, ⟨m1, rfl⟩⟩ := hrel
      cases gk with
      | zero => exact absurd HA.out (by simp [slices_Equal_string_string.l0])
      | succ k1 =>
        have H := HA.out
        clear HA
        simp only [slices_Equal_string_string.l0] at H
        by_cases c4 : x13_1 < (l0.length : Int)
        · rw [if_pos c4] at H
          have c4b0 : decide (x13_1 < (l0.length : Int)) = true := decide_eq_true c4
          clear c4
          by_cases c5 : 0 ≤ x13_1
          · rw [if_pos c5] at H
            have c5b0 : decide (0 ≤ x13_1) = true := decide_eq_true c5
            clear c5
            by_cases c6 : x13_1 < (l0.length : Int)
            · rw [if_pos c6] at H
              have c6b0 : decide (x13_1 < (l0.length : Int)) = true := decide_eq_true c6
              clear c6
              by_cases c7 : x13_1 < (l1.length : Int)
              · rw [if_pos c7] at H
                have c7b0 : decide (x13_1 < (l1.length : Int)) = true := decide_eq_true c7
                clear c7
                by_cases c8 : (rdOf ByteArray.empty l0 x13_1).toList = (rdOf ByteArray.empty l1 x13_1).toList
                · rw [if_pos c8] at H
                  have c8b0 : ((rdOf ByteArray.empty l0 x13_1).toList == (rdOf ByteArray.empty l1 x13_1).toList) = true := beq_iff_eq.mpr c8
                  have c8b1 : ((rdOf ByteArray.empty l0 x13_1).toList != (rdOf ByteArray.empty l1 x13_1).toList) = false := bne_eq_false_iff_eq.mpr c8
                  clear c8
                  have H' := Aside0.mk H
                  clear H
                  have p101 : 0 ≤ (x13_1 : Int) := of_decide_eq_true (by first | (with_reducible assumption) | assumption)
                  have q101 : x13_1 < (l0.length : Int) := of_decide_eq_true (by first | (with_reducible assumption) | assumption)
                  obtain ⟨ad101, e101, hx101_0⟩ := Kd.at_string HR0.out x13_1 p101 q101
                  cases e101
                  replace p101 := eq_true p101
                  replace q101 := eq_true q101
                  have p102 : 0 ≤ (x13_1 : Int) := of_decide_eq_true (by first | (with_reducible assumption) | assumption)
                  have q102 : x13_1 < (l1.length : Int) := of_decide_eq_true (by first | (with_reducible assumption) | assumption)
                  obtain ⟨ad102, e102, hx102_0⟩ := Kd.at_string HR1.out x13_1 p102 q102
                  cases e102
                  replace p102 := eq_true p102
                  replace q102 := eq_true q102
                  go_wp2
                  repeat (go_quiet (fail); try go_wp2)
                  go_roundg k1
                  case measure => have := HK1.out; omega
                  case rel => exact ⟨(wrap64 (x13_1 + 1)), (by first | rfl | (simp; done) | (simp [*]; done)), H', ⟨by have := HK1.out; omega⟩, by repeat (first | exact Drawn0.refl _ | apply Drawn0.step)⟩
                · rw [if_neg c8] at H
                  have c8b0 : ((rdOf ByteArray.empty l0 x13_1).toList == (rdOf ByteArray.empty l1 x13_1).toList) = false := beq_eq_false_iff_ne.mpr c8
                  have c8b1 : ((rdOf ByteArray.empty l0 x13_1).toList != (rdOf ByteArray.empty l1 x13_1).toList) = true := bne_iff_ne.mpr c8
                  obtain rfl := Option.some.inj H
                  have p101 : 0 ≤ (x13_1 : Int) := of_decide_eq_true (by first | (with_reducible assumption) | assumption)
                  have q101 : x13_1 < (l0.length : Int) := of_decide_eq_true (by first | (with_reducible assumption) | assumption)
                  obtain ⟨ad101, e101, hx101_0⟩ := Kd.at_string HR0.out x13_1 p101 q101
                  cases e101
                  replace p101 := eq_true p101
                  replace q101 := eq_true q101
                  have p102 : 0 ≤ (x13_1 : Int) := of_decide_eq_true (by first | (with_reducible assumption) | assumption)
                  have q102 : x13_1 < (l1.length : Int) := of_decide_eq_true (by first | (with_reducible assumption) | assumption)
                  obtain ⟨ad102, e102, hx102_0⟩ := Kd.at_string HR1.out x13_1 p102 q102
                  cases e102
                  replace p102 := eq_true p102
                  replace q102 := eq_true q102
                  go_wp2
                  repeat (go_quiet (fail); try go_wp2)
                  go_ret
                  exact ⟨by first | rfl | (simp; done) | (simp [*]; done), by repeat (first | exact Drawn0.refl _ | apply Drawn0.step)⟩
              · rw [if_neg c7] at H
                exact absurd H (by simp)
            · rw [if_neg c6] at H
              exact absurd H (by simp)
          · rw [if_neg c5] at H
            exact absurd H (by simp)
        · rw [if_neg c4] at H
          have c4b0 : decide (x13_1 < (l0.length : Int)) = false := decide_eq_false c4
          clear c4
          obtain rfl := Option.some.inj H
          go_wp2
          repeat (go_quiet (fail); try go_wp2)
          go_ret
          exact ⟨by first | rfl | (simp; done) | (simp [*]; done), by repeat (first | exact Drawn0.refl _ | apply Drawn0.step)⟩
  · rw [if_neg c3] at H
    have c3b0 : ((l0.length : Int) == (l1.length : Int)) = false := beq_eq_false_iff_ne.mpr c3
    have c3b1 : ((l0.length : Int) != (l1.length : Int)) = true := bne_iff_ne.mpr c3
    have c3b2 : (l0.length == l1.length) = false := by first | simpa using c3 | (simp at c3 ⊢; omega)
    obtain rfl := Option.some.inj H
    go_enter Tryz.func114, Tryz.ntmps114
    go_wp2
    repeat (go_quiet (fail); try go_wp2)
    go_ret
    exact ⟨by first | rfl | (simp; done) | (simp [*]; done), by repeat (first | exact Drawn0.refl _ | apply Drawn0.step)⟩

end Go.Proofs.YtbbhdbeaikclcaaGreat.X
-- part XAn1
namespace Go.Proofs.YtbbhdbeaikclcaaGreat.X
open Go.RowKit Go.Proofs.YtbbhdbeaikclcaaGreatW.PrintWords Go.Proofs.YtbbhdbeaikclcaaGreatW.PrintLast Go.Proofs.YtbbhdbeaikclcaaGreatW.PrintMore
attribute [local go_sem] max2_int min2_int max_two min_two max_three min_three max_four min_four   -- for this text's walks alone
set_option linter.unusedVariables false
set_option linter.unusedSimpArgs false
def align_may.l0 : Nat → List Int → Int → Int → Int → List Int → Int → Int → Option (Bool)
  | 0, _, _, _, _, _, _, _ => none
  | k + 1, x0, x1, x2, x7, x10, x11, x12 => if x12 < x11 then (if 0 ≤ x12 then (if x12 < (x10.length : Int) then (if (rd x10 x12) < (-1) then (some false) else (if (rd x10 x12) ≥ x2 then (some false) else (if (rd x10 x12) ≥ 0 then (if (rd x10 x12) ≤ x7 then (some false) else (align_may.l0 k x0 x1 x2 (mx x7 (rd x10 x12)) x10 x11 (wrap64 (x12 + 1)))) else (align_may.l0 k x0 x1 x2 (mx x7 (rd x10 x12)) x10 x11 (wrap64 (x12 + 1)))))) else (none)) else (none)) else (if (x0.length : Int) = x1 then (some (decide (x2 ≥ 0))) else (some false))
def align_may.f (k : Nat) (l0 : List Int) (a1 : Int) (a2 : Int) : Option (Bool) := align_may.l0 k l0 a1 a2 (-1) l0 (l0.length : Int) 0
set_option maxHeartbeats 8000000 in
set_option maxRecDepth 100000 in
theorem align_may.calls (k : Nat) (A0 : Option Addr) (c0 : Nat) (l0 : List Int) (a1 : Int) (a2 : Int) (r : Bool) (w : World) (hr0 : Kd.C (Kd.int .i64) w A0 l0.length l0) (hc0 : l0.length ≤ c0) (h : align_may.f k l0 a1 a2 = some r) :
    Calls Tryz.prog 71 #[.slice A0 l0.length c0, .int .i64 a1, .int .i64 a2] w fun e w' => e = .returned (.bool r) ∧ Below w.heap.size w w' := by
  have HR0 := Aside0.mk hr0
  have HC0 := Aside0.mk hc0
  clear hr0 hc0
  have HB := Aside0.mk (Below.refl w.heap.size w)
  have H : (align_may.l0 k l0 a1 a2 (-1) l0 (l0.length : Int) 0) = some r := h
  clear h
  have H' := Aside0.mk H
  clear H
  go_enter Tryz.func71, Tryz.ntmps71
  go_wp2
  go_loopg [7, 12] k (fun kq v7 v12 w' => ∃ (x7_1 : Int) (x12_1 : Int), v7 = .int .i64 x7_1 ∧ v12 = .int .i64 x12_1 ∧ Aside0 (align_may.l0 kq l0 a1 a2 x7_1 l0 (l0.length : Int) x12_1 = some r) ∧ Aside0 (kq ≤ k) ∧ Aside0 (Below w.heap.size w w'))
  case atStart => exact ⟨((-1)), (0), (by first | rfl | (simp; done) | (simp [*]; done)), (by first | rfl | (simp; done) | (simp [*]; done)), H', ⟨Nat.le_refl _⟩, ⟨by repeat (first | (with_reducible first | exact HB.out | apply below_alloc | apply pw_below_drewN | apply below_drew1) | exact HB.out)⟩⟩
  case round =>
    clear H'
    try clear p2
    obtain ⟨x7_1, x12_1, rfl, rfl, HA, HK1, HB⟩ := hrel
    cases gk with
    | zero => exact absurd HA.out (by simp [align_may.l0])
    | succ k1 =>
      have H := HA.out
      clear HA
      simp only [align_may.l0] at H
      by_cases c4 : x12_1 < (l0.length : Int)
      · rw [if_pos c4] at H
        have c4b0 : decide (x12_1 < (l0.length : Int)) = true := decide_eq_true c4
        clear c4
        by_cases c5 : 0 ≤ x12_1
        · rw [if_pos c5] at H
          have c5b0 : decide (0 ≤ x12_1) = true := decide_eq_true c5
          clear c5
          by_cases c6 : x12_1 < (l0.length : Int)
          · rw [if_pos c6] at H
            have c6b0 : decide (x12_1 < (l0.length : Int)) = true := decide_eq_true c6
            clear c6
            by_cases c7 : (rd l0 x12_1) < (-1)
            · rw [if_pos c7] at H
              have c7b0 : decide ((rd l0 x12_1) < (-1)) = true := decide_eq_true c7
              clear c7
              obtain rfl := Option.some.inj H
              have p101 : 0 ≤ (x12_1 : Int) := of_decide_eq_true (by first | (with_reducible assumption) | assumption)
              have q101 : x12_1 < (l0.length : Int) := of_decide_eq_true (by first | (with_reducible assumption) | assumption)
              obtain ⟨ad101, e101, hx101_0⟩ := Kd.at_int HR0.out x12_1 p101 q101
              cases e101
              replace hx101_0 := (HB.out.cell (World.block_lt_of_cell? w _ hx101_0)).trans hx101_0
              replace p101 := eq_true p101
              replace q101 := eq_true q101
              go_wp2
              go_ret
              exact ⟨by first | rfl | (simp [errW_none, errW_some] <;> rfl) | (simp [*, errW_none, errW_some] <;> rfl), by repeat (first | (with_reducible first | exact HB.out | apply below_alloc | apply pw_below_drewN | apply below_drew1) | exact HB.out)⟩
            · rw [if_neg c7] at H
              have c7b0 : decide ((rd l0 x12_1) < (-1)) = false := decide_eq_false c7
              clear c7
              by_cases c8 : (rd l0 x12_1) ≥ a2
              · rw [if_pos c8] at H
                have c8b0 : decide (a2 ≤ (rd l0 x12_1)) = true := decide_eq_true c8
                clear c8
                obtain rfl := Option.some.inj H
                have p101 : 0 ≤ (x12_1 : Int) := of_decide_eq_true (by first | (with_reducible assumption) | assumption)
                have q101 : x12_1 < (l0.length : Int) := of_decide_eq_true (by first | (with_reducible assumption) | assumption)
                obtain ⟨ad101, e101, hx101_0⟩ := Kd.at_int HR0.out x12_1 p101 q101
                cases e101
                replace hx101_0 := (HB.out.cell (World.block_lt_of_cell? w _ hx101_0)).trans hx101_0
                replace p101 := eq_true p101
                replace q101 := eq_true q101
                go_wp2
                go_ret
                exact ⟨by first | rfl | (simp [errW_none, errW_some] <;> rfl) | (simp [*, errW_none, errW_some] <;> rfl), by repeat (first | (with_reducible first | exact HB.out | apply below_alloc | apply pw_below_drewN | apply below_drew1) | exact HB.out)⟩
              · rw [if_neg c8] at H
                have c8b0 : decide (a2 ≤ (rd l0 x12_1)) = false := decide_eq_false c8
                clear c8
                by_cases c9 : (rd l0 x12_1) ≥ 0
                · rw [if_pos c9] at H
                  have c9b0 : decide (0 ≤ (rd l0 x12_1)) = true := decide_eq_true c9
                  clear c9
                  by_cases c10 : (rd l0 x12_1) ≤ x7_1
                  · rw [if_pos c10] at H
                    have c10b0 : decide ((rd l0 x12_1) ≤ x7_1) = true := decide_eq_true c10
                    clear c10
                    obtain rfl := Option.some.inj H
                    have p101 : 0 ≤ (x12_1 : Int) := of_decide_eq_true (by first | (with_reducible assumption) | assumption)
                    have q101 : x12_1 < (l0.length : Int) := of_decide_eq_true (by first | (with_reducible assumption) | assumption)
                    obtain ⟨ad101, e101, hx101_0⟩ := Kd.at_int HR0.out x12_1 p101 q101
                    cases e101
                    replace hx101_0 := (HB.out.cell (World.block_lt_of_cell? w _ hx101_0)).trans hx101_0
                    replace p101 := eq_true p101
                    replace q101 := eq_true q101
                    go_wp2
                    go_ret
                    exact ⟨by first | rfl | (simp [errW_none, errW_some] <;> rfl) | (simp [*, errW_none, errW_some] <;> rfl), by repeat (first | (with_reducible first | exact HB.out | apply below_alloc | apply pw_below_drewN | apply below_drew1) | exact HB.out)⟩
                  · rw [if_neg c10] at H
                    have c10b0 : decide ((rd l0 x12_1) ≤ x7_1) = false := decide_eq_false c10
                    clear c10
                    obtain ⟨ji11, hji11⟩ : ∃ j_ : Int, (mx x7_1 (rd l0 x12_1)) = j_ := ⟨_, rfl⟩
                    replace H : (align_may.l0 k1 l0 a1 a2 ji11 l0 (l0.length : Int) (wrap64 (x12_1 + 1))) = some r := by first | (rw [hji11] at H; exact H) | (simp only [hji11] at H ⊢; exact H)
                    have hji11_ : (if x7_1 < (rd l0 x12_1) then (rd l0 x12_1) else x7_1) = ji11 := hji11
                    have H' := Aside0.mk H
                    clear H
                    have p101 : 0 ≤ (x12_1 : Int) := of_decide_eq_true (by first | (with_reducible assumption) | assumption)
                    have q101 : x12_1 < (l0.length : Int) := of_decide_eq_true (by first | (with_reducible assumption) | assumption)
                    obtain ⟨ad101, e101, hx101_0⟩ := Kd.at_int HR0.out x12_1 p101 q101
                    cases e101
                    replace hx101_0 := (HB.out.cell (World.block_lt_of_cell? w _ hx101_0)).trans hx101_0
                    replace p101 := eq_true p101
                    replace q101 := eq_true q101
                    go_wp2
                    go_roundg k1
                    case measure => have := HK1.out; omega
                    case rel => exact ⟨(ji11), (wrap64 (x12_1 + 1)), (by first | rfl | (simp; done) | (simp only [← hji11] <;> (first | rfl | simp)) | (simp [*]; done)), (by first | rfl | (simp; done) | (simp [*]; done)), H', ⟨by have := HK1.out; omega⟩, ⟨by repeat (first | (with_reducible first | exact HB.out | apply below_alloc | apply pw_below_drewN | apply below_drew1) | exact HB.out)⟩⟩
                · rw [if_neg c9] at H
                  have c9b0 : decide (0 ≤ (rd l0 x12_1)) = false := decide_eq_false c9
                  clear c9
                  obtain ⟨ji12, hji12⟩ : ∃ j_ : Int, (mx x7_1 (rd l0 x12_1)) = j_ := ⟨_, rfl⟩
                  replace H : (align_may.l0 k1 l0 a1 a2 ji12 l0 (l0.length : Int) (wrap64 (x12_1 + 1))) = some r := by first | (rw [hji12] at H; exact H) | (simp only [hji12] at H ⊢; exact H)
                  have hji12_ : (if x7_1 < (rd l0 x12_1) then (rd l0 x12_1) else x7_1) = ji12 := hji12
                  have H' := Aside0.mk H
                  clear H
                  have p101 : 0 ≤ (x12_1 : Int) := of_decide_eq_true (by first | (with_reducible assumption) | assumption)
                  have q101 : x12_1 < (l0.length : Int) := of_decide_eq_true (by first | (with_reducible assumption) | assumption)
                  obtain ⟨ad101, e101, hx101_0⟩ := Kd.at_int HR0.out x12_1 p101 q101
                  cases e101
                  replace hx101_0 := (HB.out.cell (World.block_lt_of_cell? w _ hx101_0)).trans hx101_0
                  replace p101 := eq_true p101
                  replace q101 := eq_true q101
                  go_wp2
                  go_roundg k1
                  case measure => have := HK1.out; omega
                  case rel => exact ⟨(ji12), (wrap64 (x12_1 + 1)), (by first | rfl | (simp; done) | (simp only [← hji12] <;> (first | rfl | simp)) | (simp [*]; done)), (by first | rfl | (simp; done) | (simp [*]; done)), H', ⟨by have := HK1.out; omega⟩, ⟨by repeat (first | (with_reducible first | exact HB.out | apply below_alloc | apply pw_below_drewN | apply below_drew1) | exact HB.out)⟩⟩
          · rw [if_neg c6] at H
            exact absurd H (by simp)
        · rw [if_neg c5] at H
          exact absurd H (by simp)
      · rw [if_neg c4] at H
        have c4b0 : decide (x12_1 < (l0.length : Int)) = false := decide_eq_false c4
        clear c4
        by_cases c13 : (l0.length : Int) = a1
        · rw [if_pos c13] at H
          have c13b0 : ((l0.length : Int) == a1) = true := beq_iff_eq.mpr c13
          have c13b1 : ((l0.length : Int) != a1) = false := bne_eq_false_iff_eq.mpr c13
          clear c13
          obtain rfl := Option.some.inj H
          go_wp2
          go_ret
          exact ⟨by first | rfl | (simp [errW_none, errW_some] <;> rfl) | (simp [*, errW_none, errW_some] <;> rfl), by repeat (first | (with_reducible first | exact HB.out | apply below_alloc | apply pw_below_drewN | apply below_drew1) | exact HB.out)⟩
        · rw [if_neg c13] at H
          have c13b0 : ((l0.length : Int) == a1) = false := beq_eq_false_iff_ne.mpr c13
          have c13b1 : ((l0.length : Int) != a1) = true := bne_iff_ne.mpr c13
          obtain rfl := Option.some.inj H
          go_wp2
          go_ret
          exact ⟨by first | rfl | (simp [errW_none, errW_some] <;> rfl) | (simp [*, errW_none, errW_some] <;> rfl), by repeat (first | (with_reducible first | exact HB.out | apply below_alloc | apply pw_below_drewN | apply below_drew1) | exact HB.out)⟩

end Go.Proofs.YtbbhdbeaikclcaaGreat.X
-- part XRn7
namespace Go.Proofs.YtbbhdbeaikclcaaGreat.X
open Go.RowKit Go.Proofs.YtbbhdbeaikclcaaGreatW.PrintWords Go.Proofs.YtbbhdbeaikclcaaGreatW.PrintLast Go.Proofs.YtbbhdbeaikclcaaGreatW.PrintMore
attribute [local go_sem] max2_int min2_int max_two min_two max_three min_three max_four min_four   -- for this text's walks alone
set_option linter.unusedVariables false
set_option linter.unusedSimpArgs false
def sennitref06_All.l0 : Nat → List (List ByteArray) → List (List ByteArray) → Int → Option (Bool)
  | 0, _, _, _ => none
  | k + 1, x0, x1, x5 => if x5 < (x0.length : Int) then (if 0 ≤ x5 then (if x5 < (x1.length : Int) then ((sennitref01_Same.f k (rd_L1 x0 x5) (rd_L1 x1 x5)).bind fun t234 => (if t234 = true then (sennitref06_All.l0 k x0 x1 (wrap64 (x5 + 1))) else (some false))) else (none)) else (none)) else (some true)
def sennitref06_All.f (k : Nat) (l0 : List (List ByteArray)) (l1 : List (List ByteArray)) : Option (Bool) := if (l0.length : Int) = (l1.length : Int) then (sennitref06_All.l0 k l0 l1 0) else (some false)
set_option maxHeartbeats 8000000 in
set_option maxRecDepth 100000 in
theorem sennitref06_All.calls (k : Nat) (A0 : Option Addr) (c0 : Nat) (l0 : List (List ByteArray)) (A1 : Option Addr) (c1 : Nat) (l1 : List (List ByteArray)) (r : Bool) (w : World) (hr0 : Kd.C (Kd.slice 9 Kd.string) w A0 l0.length l0) (hc0 : l0.length ≤ c0) (hr1 : Kd.C (Kd.slice 9 Kd.string) w A1 l1.length l1) (hc1 : l1.length ≤ c1) (h : sennitref06_All.f k l0 l1 = some r) :
    Calls Tryz.prog 47 #[.slice A0 l0.length c0, .slice A1 l1.length c1] w fun e w' => e = .returned (.bool r) ∧ Drawn0 w w' := by
  have HR0 := Aside0.mk hr0
  have HC0 := Aside0.mk hc0
  clear hr0 hc0
  have HR1 := Aside0.mk hr1
  have HC1 := Aside0.mk hc1
  clear hr1 hc1
  have H : (if (l0.length : Int) = (l1.length : Int) then (sennitref06_All.l0 k l0 l1 0) else (some false)) = some r := h
  clear h
  by_cases c3 : (l0.length : Int) = (l1.length : Int)
  · rw [if_pos c3] at H
    have c3b0 : ((l0.length : Int) == (l1.length : Int)) = true := beq_iff_eq.mpr c3
    have c3b1 : ((l0.length : Int) != (l1.length : Int)) = false := bne_eq_false_iff_eq.mpr c3
    have c3b2 : (l0.length == l1.length) = true := by first | simpa using c3 | (simp at c3 ⊢; omega)
    clear c3
    have H' := Aside0.mk H
    clear H
    go_enter Tryz.func47, Tryz.ntmps47
    go_wp2
    repeat (go_quiet (fail); try go_wp2)
    go_loopg [5] k (fun kq v5 w' => ∃ (x5_1 : Int), v5 = .int .i64 x5_1 ∧ Aside0 (sennitref06_All.l0 kq l0 l1 x5_1 = some r) ∧ Aside0 (kq ≤ k) ∧ Drawn0 w w')
    case atStart => exact ⟨(0), (by first | rfl | (simp; done) | (simp [*]; done)), H', ⟨Nat.le_refl _⟩, by repeat (first | exact Drawn0.refl _ | apply Drawn0.step)⟩
    case round =>
      clear H'
      try clear c1
      try clear p2
      try clear c3
      try clear c3b0
      try clear c3b1
      try clear c3b2
      obtain ⟨x5_1, rfl, HA, HK1, ⟨m1, rfl⟩⟩ := hrel
      cases gk with
      | zero => exact absurd HA.out (by simp [sennitref06_All.l0])
      | succ k1 =>
        have H := HA.out
        clear HA
        simp only [sennitref06_All.l0] at H
        by_cases c4 : x5_1 < (l0.length : Int)
        · rw [if_pos c4] at H
          have c4b0 : decide (x5_1 < (l0.length : Int)) = true := decide_eq_true c4
          clear c4
          by_cases c5 : 0 ≤ x5_1
          · rw [if_pos c5] at H
            have c5b0 : decide (0 ≤ x5_1) = true := decide_eq_true c5
            clear c5
            by_cases c6 : x5_1 < (l1.length : Int)
            · rw [if_pos c6] at H
              have c6b0 : decide (x5_1 < (l1.length : Int)) = true := decide_eq_true c6
              clear c6
              replace H := Option.bind_eq_some_iff.mp H
              obtain ⟨t234, A70, H⟩ := H
              replace H : (if t234 = true then (sennitref06_All.l0 k1 l0 l1 (wrap64 (x5_1 + 1))) else (some false)) = some r := H
              have A7 := Aside0.mk A70
              clear A70
              by_cases c8 : t234 = true
              · subst c8
                have H1 : (sennitref06_All.l0 k1 l0 l1 (wrap64 (x5_1 + 1))) = some r := by rw [if_pos rfl] at H; exact H
                clear H
                have H := H1
                clear H1
                have H' := Aside0.mk H
                clear H
                have p232 : 0 ≤ (x5_1 : Int) := of_decide_eq_true (by first | (with_reducible assumption) | assumption)
                have q232 : x5_1 < (l0.length : Int) := of_decide_eq_true (by first | (with_reducible assumption) | assumption)
                obtain ⟨ad232, A232_0, c232_0, e232, hx232_0, hl232_0, hi232_0⟩ := at_L1 HR0.out x5_1 p232 q232
                cases e232
                have HR232_0 := Aside0.mk hi232_0
                have HC232_0 := Aside0.mk hl232_0
                clear hi232_0 hl232_0
                replace p232 := eq_true p232
                replace q232 := eq_true q232
                have p233 : 0 ≤ (x5_1 : Int) := of_decide_eq_true (by first | (with_reducible assumption) | assumption)
                have q233 : x5_1 < (l1.length : Int) := of_decide_eq_true (by first | (with_reducible assumption) | assumption)
                obtain ⟨ad233, A233_0, c233_0, e233, hx233_0, hl233_0, hi233_0⟩ := at_L1 HR1.out x5_1 p233 q233
                cases e233
                have HR233_0 := Aside0.mk hi233_0
                have HC233_0 := Aside0.mk hl233_0
                clear hi233_0 hl233_0
                replace p233 := eq_true p233
                replace q233 := eq_true q233
                go_wp2_with (first | (go_at_call 26; (with_reducible refine (sennitref01_Same.calls k1 _ _ (rd_L1 l0 x5_1) _ _ (rd_L1 l1 x5_1) true _ ?side1 ?side2 ?side3 ?side4 A7.out).mono ?_); (case side1 => repeat (first | exact HR232_0.out | (with_reducible refine Kd.C_alloc ?_ _) | (with_reducible refine Kd.C_drewN ?_ _) | (with_reducible refine Kd.C_drew ?_))); (case side2 => exact HC232_0.out); (case side3 => repeat (first | exact HR233_0.out | (with_reducible refine Kd.C_alloc ?_ _) | (with_reducible refine Kd.C_drewN ?_ _) | (with_reducible refine Kd.C_drew ?_))); (case side4 => exact HC233_0.out); rintro e w' ⟨rfl, ⟨nd, rfl⟩⟩; (try first | exact ⟨rfl, _, World.drewN_drewN _ _ _⟩ | exact ⟨rfl, _, Eq.trans (World.drewN_drewN _ _ _) (congrArg (World.drewN _) (Nat.add_assoc _ _ _))⟩)))
                repeat (go_quiet (first | (go_at_call 26; (with_reducible refine (sennitref01_Same.calls k1 _ _ (rd_L1 l0 x5_1) _ _ (rd_L1 l1 x5_1) true _ ?side1 ?side2 ?side3 ?side4 A7.out).mono ?_); (case side1 => repeat (first | exact HR232_0.out | (with_reducible refine Kd.C_alloc ?_ _) | (with_reducible refine Kd.C_drewN ?_ _) | (with_reducible refine Kd.C_drew ?_))); (case side2 => exact HC232_0.out); (case side3 => repeat (first | exact HR233_0.out | (with_reducible refine Kd.C_alloc ?_ _) | (with_reducible refine Kd.C_drewN ?_ _) | (with_reducible refine Kd.C_drew ?_))); (case side4 => exact HC233_0.out); rintro e w' ⟨rfl, ⟨nd, rfl⟩⟩; (try first | exact ⟨rfl, _, World.drewN_drewN _ _ _⟩ | exact ⟨rfl, _, Eq.trans (World.drewN_drewN _ _ _) (congrArg (World.drewN _) (Nat.add_assoc _ _ _))⟩))); try go_wp2_with (first | (go_at_call 26; (with_reducible refine (sennitref01_Same.calls k1 _ _ (rd_L1 l0 x5_1) _ _ (rd_L1 l1 x5_1) true _ ?side1 ?side2 ?side3 ?side4 A7.out).mono ?_); (case side1 => repeat (first | exact HR232_0.out | (with_reducible refine Kd.C_alloc ?_ _) | (with_reducible refine Kd.C_drewN ?_ _) | (with_reducible refine Kd.C_drew ?_))); (case side2 => exact HC232_0.out); (case side3 => repeat (first | exact HR233_0.out | (with_reducible refine Kd.C_alloc ?_ _) | (with_reducible refine Kd.C_drewN ?_ _) | (with_reducible refine Kd.C_drew ?_))); (case side4 => exact HC233_0.out); rintro e w' ⟨rfl, ⟨nd, rfl⟩⟩; (try first | exact ⟨rfl, _, World.drewN_drewN _ _ _⟩ | exact ⟨rfl, _, Eq.trans (World.drewN_drewN _ _ _) (congrArg (World.drewN _) (Nat.add_assoc _ _ _))⟩))))
                go_roundg k1
                case measure => have := HK1.out; omega
                case rel => exact ⟨(wrap64 (x5_1 + 1)), (by first | rfl | (simp; done) | (simp [*]; done)), H', ⟨by have := HK1.out; omega⟩, by repeat (first | exact Drawn0.refl _ | apply Drawn0.step)⟩
              · replace c8 := Bool.eq_false_iff.mpr c8
                subst c8
                have H1 : (some false) = some r := by rw [if_neg (show ¬ (false = true) by decide)] at H; exact H
                clear H
                have H := H1
                clear H1
                obtain rfl := Option.some.inj H
                have p232 : 0 ≤ (x5_1 : Int) := of_decide_eq_true (by first | (with_reducible assumption) | assumption)
                have q232 : x5_1 < (l0.length : Int) := of_decide_eq_true (by first | (with_reducible assumption) | assumption)
                obtain ⟨ad232, A232_0, c232_0, e232, hx232_0, hl232_0, hi232_0⟩ := at_L1 HR0.out x5_1 p232 q232
                cases e232
                have HR232_0 := Aside0.mk hi232_0
                have HC232_0 := Aside0.mk hl232_0
                clear hi232_0 hl232_0
                replace p232 := eq_true p232
                replace q232 := eq_true q232
                have p233 : 0 ≤ (x5_1 : Int) := of_decide_eq_true (by first | (with_reducible assumption) | assumption)
                have q233 : x5_1 < (l1.length : Int) := of_decide_eq_true (by first | (with_reducible assumption) | assumption)
                obtain ⟨ad233, A233_0, c233_0, e233, hx233_0, hl233_0, hi233_0⟩ := at_L1 HR1.out x5_1 p233 q233
                cases e233
                have HR233_0 := Aside0.mk hi233_0
                have HC233_0 := Aside0.mk hl233_0
                clear hi233_0 hl233_0
                replace p233 := eq_true p233
                replace q233 := eq_true q233
                go_wp2_with (first | (go_at_call 26; (with_reducible refine (sennitref01_Same.calls k1 _ _ (rd_L1 l0 x5_1) _ _ (rd_L1 l1 x5_1) false _ ?side1 ?side2 ?side3 ?side4 A7.out).mono ?_); (case side1 => repeat (first | exact HR232_0.out | (with_reducible refine Kd.C_alloc ?_ _) | (with_reducible refine Kd.C_drewN ?_ _) | (with_reducible refine Kd.C_drew ?_))); (case side2 => exact HC232_0.out); (case side3 => repeat (first | exact HR233_0.out | (with_reducible refine Kd.C_alloc ?_ _) | (with_reducible refine Kd.C_drewN ?_ _) | (with_reducible refine Kd.C_drew ?_))); (case side4 => exact HC233_0.out); rintro e w' ⟨rfl, ⟨nd, rfl⟩⟩; (try first | exact ⟨rfl, _, World.drewN_drewN _ _ _⟩ | exact ⟨rfl, _, Eq.trans (World.drewN_drewN _ _ _) (congrArg (World.drewN _) (Nat.add_assoc _ _ _))⟩)))
                repeat (go_quiet (first | (go_at_call 26; (with_reducible refine (sennitref01_Same.calls k1 _ _ (rd_L1 l0 x5_1) _ _ (rd_L1 l1 x5_1) false _ ?side1 ?side2 ?side3 ?side4 A7.out).mono ?_); (case side1 => repeat (first | exact HR232_0.out | (with_reducible refine Kd.C_alloc ?_ _) | (with_reducible refine Kd.C_drewN ?_ _) | (with_reducible refine Kd.C_drew ?_))); (case side2 => exact HC232_0.out); (case side3 => repeat (first | exact HR233_0.out | (with_reducible refine Kd.C_alloc ?_ _) | (with_reducible refine Kd.C_drewN ?_ _) | (with_reducible refine Kd.C_drew ?_))); (case side4 => exact HC233_0.out); rintro e w' ⟨rfl, ⟨nd, rfl⟩⟩; (try first | exact ⟨rfl, _, World.drewN_drewN _ _ _⟩ | exact ⟨rfl, _, Eq.trans (World.drewN_drewN _ _ _) (congrArg (World.drewN _) (Nat.add_assoc _ _ _))⟩))); try go_wp2_with (first | (go_at_call 26; (with_reducible refine (sennitref01_Same.calls k1 _ _ (rd_L1 l0 x5_1) _ _ (rd_L1 l1 x5_1) false _ ?side1 ?side2 ?side3 ?side4 A7.out).mono ?_); (case side1 => repeat (first | exact HR232_0.out | (with_reducible refine Kd.C_alloc ?_ _) | (with_reducible refine Kd.C_drewN ?_ _) | (with_reducible refine Kd.C_drew ?_))); (case side2 => exact HC232_0.out); (case side3 => repeat (first | exact HR233_0.out | (with_reducible refine Kd.C_alloc ?_ _) | (with_reducible refine Kd.C_drewN ?_ _) | (with_reducible refine Kd.C_drew ?_))); (case side4 => exact HC233_0.out); rintro e w' ⟨rfl, ⟨nd, rfl⟩⟩; (try first | exact ⟨rfl, _, World.drewN_drewN _ _ _⟩ | exact ⟨rfl, _, Eq.trans (World.drewN_drewN _ _ _) (congrArg (World.drewN _) (Nat.add_assoc _ _ _))⟩))))
                go_ret
                exact ⟨by first | rfl | (simp; done) | (simp [*]; done), by repeat (first | exact Drawn0.refl _ | apply Drawn0.step)⟩
            · rw [if_neg c6] at H
              exact absurd H (by simp)
          · rw [if_neg c5] at H
            exact absurd H (by simp)
        · rw [if_neg c4] at H
          have c4b0 : decide (x5_1 < (l0.length : Int)) = false := decide_eq_false c4
          clear c4
          obtain rfl := Option.some.inj H
          go_wp2
          repeat (go_quiet (fail); try go_wp2)
          go_ret
          exact ⟨by first | rfl | (simp; done) | (simp [*]; done), by repeat (first | exact Drawn0.refl _ | apply Drawn0.step)⟩
  · rw [if_neg c3] at H
    have c3b0 : ((l0.length : Int) == (l1.length : Int)) = false := beq_eq_false_iff_ne.mpr c3
    have c3b1 : ((l0.length : Int) != (l1.length : Int)) = true := bne_iff_ne.mpr c3
    have c3b2 : (l0.length == l1.length) = false := by first | simpa using c3 | (simp at c3 ⊢; omega)
    obtain rfl := Option.some.inj H
    go_enter Tryz.func47, Tryz.ntmps47
    go_wp2
    repeat (go_quiet (fail); try go_wp2)
    go_ret
    exact ⟨by first | rfl | (simp; done) | (simp [*]; done), by repeat (first | exact Drawn0.refl _ | apply Drawn0.step)⟩

end Go.Proofs.YtbbhdbeaikclcaaGreat.X
-- part XKit
namespace Go.Proofs.YtbbhdbeaikclcaaGreat.X
open Go.RowKit Go.Proofs.YtbbhdbeaikclcaaGreatW.PrintWords Go.Proofs.YtbbhdbeaikclcaaGreatW.PrintLast Go.Proofs.YtbbhdbeaikclcaaGreatW.PrintMore
set_option linter.unusedVariables false
set_option linter.unusedSimpArgs false
/-- A block of known cells, read as a row. -/
theorem C_blk {α : Type} {d : Kd α} {W : World} {g : Nat} {t : TypeId} {fr : Nat × Nat} {xs : List α} {inner : List Value} (h : W.heap[g]? = some (.cells inner.toArray t fr)) (hr : Reps (d.K W) d.sz xs inner) (hl : xs.length ≤ 9223372036854775807) : d.C W (some ⟨g, 0, none⟩) xs.length xs := by
  refine ⟨rfl, hl, fun _ => ⟨_, rfl, fun j p hj => ⟨_, ?_, hr.2 j p hj, fun i u hu => ?_⟩⟩⟩
  · have hjl := (List.getElem?_eq_some_iff.1 hj).1
    have h1 : j * d.sz + d.sz ≤ inner.length := by rw [hr.1, ← Nat.succ_mul]; exact Nat.mul_le_mul_right _ hjl
    rw [List.length_take, List.length_drop]; omega
  · have hil := (List.getElem?_eq_some_iff.1 hu).1
    rw [List.length_take] at hil
    rw [List.getElem?_take_of_lt (by omega), List.getElem?_drop] at hu
    have : W.cell? ⟨g, j * d.sz + i, none⟩ = some u := by rw [cell_of_row W g _ _ t fr h]; simpa using hu
    obtain ⟨q, hq⟩ : ∃ q, j * d.sz + i = q := ⟨_, rfl⟩
    rw [hq] at this ⊢
    by_cases e : q = 0
    · subst e; simpa [Addr.add] using this
    · simpa [Addr.add, e] using this
/-- A step of a call that keeps the old: as seen from the law's world. -/
theorem far_ {W w w' : World} (h : Below W.heap.size W w) (hb : Below w.heap.size w w') : Below W.heap.size W w' := h.trans (hb.mono h.size)
/-- An element that is a slice. -/
theorem at_slice {α : Type} {e : Nat} {d : Kd α} {w : World} {A : Option Addr} {n : Nat} {xs : List (List α)} (h : (Kd.slice e d).C w A n xs) (i : Nat) (hi : i < n) :
    ∃ ad A0 c0, A = some ad ∧ w.cell? (ad.add i) = some (.slice A0 (xs.getD i []).length c0) ∧ (xs.getD i []).length ≤ c0 ∧ d.C w A0 (xs.getD i []).length (xs.getD i []) := by
  obtain ⟨ad, c, e1, _, ⟨A0, c0, e2, e3, e4⟩, e5⟩ := ReadsRow.get_ h [] (i : Int) (by omega) (by omega)
  rw [Int.toNat_natCast] at e2 e3 e4 e5
  subst e2
  have := e5 0 _ rfl
  rw [show i * (Kd.slice e d).sz + 0 = i from by rw [show (Kd.slice e d).sz = 1 from rfl]; omega] at this
  exact ⟨ad, A0, c0, e1, this, e3, e4⟩
theorem at_str {w : World} {A : Option Addr} {n : Nat} {xs : List ByteArray} (h : Kd.string.C w A n xs) (i : Nat) (hi : i < n) : ∃ ad, A = some ad ∧ w.cell? (ad.add i) = some (.string (xs.getD i ByteArray.empty)) := by
  obtain ⟨ad, e, hc⟩ := Kd.at_string h (i : Int) (by omega) (by omega)
  rw [Int.toNat_natCast] at hc
  refine ⟨ad, e, ?_⟩
  rw [hc, rdOf, Int.toNat_natCast]
theorem at_num {k : IntKind} {w : World} {A : Option Addr} {n : Nat} {xs : List Int} (h : (Kd.int k).C w A n xs) (i : Nat) (hi : i < n) : ∃ ad, A = some ad ∧ w.cell? (ad.add i) = some (.int k (xs.getD i 0)) := by
  obtain ⟨ad, e, hc⟩ := Kd.at_int h (i : Int) (by omega) (by omega)
  rw [Int.toNat_natCast] at hc
  refine ⟨ad, e, ?_⟩
  rw [hc, rd, Int.toNat_natCast]
theorem getD_get {α : Type} {d : α} {l : List α} {i : Nat} (h : i < l.length) : l.getD i d = l[i] := by simp [h]
end Go.Proofs.YtbbhdbeaikclcaaGreat.X
-- part XHeld
namespace Go.Proofs.YtbbhdbeaikclcaaGreat.X
open Go.RowKit Go.Proofs.YtbbhdbeaikclcaaGreatW.PrintWords Go.Proofs.YtbbhdbeaikclcaaGreatW.PrintLast Go.Proofs.YtbbhdbeaikclcaaGreatW.PrintMore
set_option linter.unusedVariables false
set_option linter.unusedSimpArgs false
/-- A kind, read at one world. -/
def heldK {α : Type} (w0 : World) (d : Kd α) : Kd α where
  sz := d.sz
  E := []
  K := fun _ x cs => d.K w0 x cs
  M := fun _ _ _ x cs => d.K w0 x cs
  K_len := fun h => d.K_len h
  K_one := fun h => d.K_one h
  K_below := fun _ h => h
  K_of_M := fun h => h
  M_mono := fun _ h => h
  M_bound := fun h => h
  M_move := fun _ h => h
  M_lower := fun _ h => h
section
variable {α : Type} {d : Kd α} {w0 w w1 : World} {A : Option Addr} {n e base : Nat} {ok : Nat → Prop} {v : Value} {xs : List α}
theorem held_C (h : d.C w0 A n xs) (hb : Below w0.heap.size w0 w) : (heldK w0 d).C w A n xs := by
  refine ⟨h.1, h.2.1, fun hn => ?_⟩
  obtain ⟨ad, e, hc⟩ := h.2.2 hn
  refine ⟨ad, e, fun j p hj => ?_⟩
  obtain ⟨c, h1, h2, h3⟩ := hc j p hj
  exact ⟨c, h1, h2, fun i u hu => (hb.cell (World.block_lt_of_cell? w0 _ (h3 i u hu))).trans (h3 i u hu)⟩
theorem C_held (h : (heldK w0 d).C w A n xs) (hb : Below w0.heap.size w0 w) : d.C w A n xs := by
  refine ⟨h.1, h.2.1, fun hn => ?_⟩
  obtain ⟨ad, e, hc⟩ := h.2.2 hn
  refine ⟨ad, e, fun j p hj => ?_⟩
  obtain ⟨c, h1, h2, h3⟩ := hc j p hj
  exact ⟨c, h1, d.K_below hb h2, h3⟩
theorem R_held_reads (h : (heldK w0 d).R e w base ok v xs) (hb : Below w0.heap.size w0 w) : ∃ A c, v = .slice A xs.length c ∧ xs.length ≤ c ∧ d.C w A xs.length xs := by
  obtain ⟨A, c, rfl, hl, hC⟩ := Kd.R_reads h
  exact ⟨A, c, rfl, hl, C_held hC hb⟩
end
/-- A list of texts as an element: its slice. -/
theorem strs_K {w : World} {A : Option Addr} {c : Nat} {l : List ByteArray} (h : Kd.C Kd.string w A l.length l) (hc : l.length ≤ c) : (Kd.slice 9 Kd.string).K w l [.slice A l.length c] := ⟨A, c, rfl, hc, h⟩
theorem strs_nil (w : World) : (Kd.slice 9 Kd.string).K w [] [.slice none 0 0] := ⟨none, 0, rfl, Nat.le_refl _, Kd.C_nil _ _⟩
end Go.Proofs.YtbbhdbeaikclcaaGreat.X
-- part XBlk
namespace Go.Proofs.YtbbhdbeaikclcaaGreat.X
open Go.RowKit Go.Proofs.YtbbhdbeaikclcaaGreatW.PrintWords Go.Proofs.YtbbhdbeaikclcaaGreatW.PrintLast Go.Proofs.YtbbhdbeaikclcaaGreatW.PrintMore
set_option linter.unusedVariables false
set_option linter.unusedSimpArgs false
theorem blkNe {W : World} {a b : Nat} {cs cs' : Array Value} {t t' : TypeId} (h : W.heap[a]? = some (.cells cs t (0, 0))) (k : W.heap[b]? = some (.cells cs' t' (0, 0))) (ht : t ≠ t') : a ≠ b := by
  rintro rfl
  rw [h] at k
  injection k with k
  injection k with _ e _
  exact ht e
theorem setKeep {W : World} {b g j : Nat} {o : Obj} (h : W.heap[b]? = some o) (hne : b ≠ g) (v : Value) : (W.setCell ⟨g, j, none⟩ v).heap[b]? = some o := (heap_set_other hne v).trans h
theorem farKeep {W W' : World} {k : Nat} {o : Obj} (h : W.heap[k]? = some o) (hb : Below W.heap.size W W') : W'.heap[k]? = some o := (hb.block k (Array.getElem?_eq_some_iff.1 h).1).trans h
theorem newKeep {W : World} {k : Nat} {o : Obj} (h : W.heap[k]? = some o) (o' : Obj) : (W.alloc o').heap[k]? = some o := (heap_alloc_old _ _ (Array.getElem?_eq_some_iff.1 h).1).trans h
theorem newBelow (W : World) (o : Obj) : Below W.heap.size W (W.alloc o) := (Below.refl _ W).alloc (Nat.le_refl _) o
/-- A part of a list, with three bounds. -/
def cutA (A : Option Addr) (f t : Nat) : Option Addr := if t = f then A else A.map (·.add f)
def cutL {α : Type} (l : List α) (f t : Nat) : List α := (l.take t).drop f
theorem cutL_len {α : Type} {l : List α} {f t : Nat} (h2 : t ≤ l.length) : (cutL l f t).length = t - f := by
  rw [cutL, List.length_drop, List.length_take]; omega
theorem C_cutA {α : Type} {d : Kd α} {w : World} {A : Option Addr} {l : List α} {f t : Nat} (hsz : d.sz = 1) (h : d.C w A l.length l) (h1 : f ≤ t) (h2 : t ≤ l.length) : d.C w (cutA A f t) (cutL l f t).length (cutL l f t) := by
  by_cases e : t = f
  · subst e
    have hz : cutL l t t = [] := List.eq_nil_of_length_eq_zero (by rw [cutL_len h2]; omega)
    have hx := Kd.C_take h (Nat.zero_le l.length)
    rw [cutA, if_pos rfl, hz]
    simpa using hx
  · have hm := Kd.C_mid (c := l.length) h h1 h2 (Nat.le_refl _)
    rw [if_neg (by omega), hsz, Nat.mul_one] at hm
    rw [cutA, if_neg e]
    exact hm
theorem F_cutA {α : Type} {d : Kd α} {w : World} {ok : Nat → Prop} {A : Option Addr} {l : List α} {f t : Nat} (hsz : d.sz = 1) (h : Kd.F d w ok A l.length l) (h1 : f ≤ t) (h2 : t ≤ l.length) : Kd.F d w ok (cutA A f t) (cutL l f t).length (cutL l f t) := Kd.F_imp h (fun _ hC => C_cutA hsz hC h1 h2)
theorem run_cut3 {P : Program} (t e : TypeId) {i : TypeInfo} (ht : P.underlying t = some (.slice e)) (hi : P.info? e = some i) (hsz : i.size = 1) (A : Option Addr) (n c lo hi' : Nat) (h1 : lo ≤ hi') (h2 : hi' ≤ n) (hc : n ≤ c) :
    ∀ W : World, (Instr.slice t (.slice A n c) (some (.int .i64 (lo : Int))) (some (.int .i64 (hi' : Int))) (some (.int .i64 (hi' : Int)))).run P W = .ok (.slice (cutA A lo hi') (hi' - lo) (hi' - lo)) W := by
  intro W
  have hel : P.elem t = e := by simp [Program.elem, ht]
  have hu : P.underlying t = some (.slice (P.elem t)) := by rw [hel]; exact ht
  rw [run_slice_lhm W t A n c hu .i64 .i64 .i64 (lo : Int) (hi' : Int) (hi' : Int) (by omega) (by omega) (by omega) (by omega), hel]
  simp [sizeOf, typeInfo, hi, hsz, sliced, Result.andThen, cutA]
end Go.Proofs.YtbbhdbeaikclcaaGreat.X
-- part XInternMath
namespace Go.Proofs.YtbbhdbeaikclcaaGreat.X
set_option linter.unusedVariables false
set_option linter.unusedSimpArgs false
/-- Where a text stands first; behind all, if it doesn't. -/
def place (s : ByteArray) : List ByteArray → Nat
  | [] => 0
  | x :: xs => if x = s then 0 else place s xs + 1
/-- A table, and one text more, if it is new. -/
def addT (t : List ByteArray) (s : ByteArray) : List ByteArray := if place s t < t.length then t else t ++ [s]
theorem place_le (s : ByteArray) : ∀ t, place s t ≤ t.length
  | [] => Nat.le_refl _
  | x :: xs => by
    have := place_le s xs
    simp only [place, List.length_cons]
    split <;> omega
theorem place_get (s : ByteArray) : ∀ {t : List ByteArray} (h : place s t < t.length), t[place s t] = s
  | [], h => by simp [place] at h
  | x :: xs, h => by
    by_cases e : x = s
    · simp [place, e]
    · have h' : place s xs < xs.length := by simpa [place, e] using h
      simp only [place, e, if_false, List.getElem_cons_succ]
      exact place_get s h'
theorem place_mem (s : ByteArray) : ∀ {t : List ByteArray}, s ∈ t ↔ place s t < t.length
  | [] => by simp [place]
  | x :: xs => by
    by_cases e : x = s
    · simp [place, e]
    · have e' : ¬ s = x := fun h => e h.symm
      simp [place, e, e', place_mem s (t := xs)]
theorem place_append (s : ByteArray) : ∀ {t : List ByteArray} (u : List ByteArray), place s t < t.length → place s (t ++ u) = place s t
  | [], u, h => by simp [place] at h
  | x :: xs, u, h => by
    by_cases e : x = s
    · simp [place, e]
    · have h' : place s xs < xs.length := by simpa [place, e] using h
      simp [place, e, place_append s u h']
theorem place_new (s : ByteArray) : ∀ {t : List ByteArray} (u : List ByteArray), ¬ place s t < t.length → place s (t ++ s :: u) = t.length
  | [], u, h => by simp [place]
  | x :: xs, u, h => by
    by_cases e : x = s
    · simp [place, e] at h
    · have h' : ¬ place s xs < xs.length := by simpa [place, e] using h
      simp [place, e, place_new s u h']
theorem place_not {s : ByteArray} {t : List ByteArray} (h : ¬ place s t < t.length) : place s t = t.length := by
  have := place_le s t; omega
theorem addT_length (t : List ByteArray) (s : ByteArray) : t.length ≤ (addT t s).length ∧ (addT t s).length ≤ t.length + 1 := by
  unfold addT; split <;> simp
/-- The numbers of some texts, and the table then. -/
def idsOne : List ByteArray → List ByteArray → List ByteArray × List Int
  | t, [] => (t, [])
  | t, s :: l => ((idsOne (addT t s) l).1, (place s t : Int) :: (idsOne (addT t s) l).2)
def idsMany : List ByteArray → List (List ByteArray) → List (List Int)
  | _, [] => []
  | t, l :: ls => (idsOne t l).2 :: idsMany (idsOne t l).1 ls
/-- The numbers of all texts of some files. -/
def idsAll (files : List (List ByteArray)) : List (List Int) := idsMany [] files
theorem idsOne_length : ∀ (t l : List ByteArray), (idsOne t l).2.length = l.length
  | t, [] => rfl
  | t, s :: l => by simp [idsOne, idsOne_length (addT t s) l]
theorem idsOne_snoc : ∀ (t l : List ByteArray) (s : ByteArray), idsOne t (l ++ [s]) = (addT (idsOne t l).1 s, (idsOne t l).2 ++ [(place s (idsOne t l).1 : Int)])
  | t, [], s => by simp [idsOne]
  | t, x :: l, s => by simp [idsOne, idsOne_snoc (addT t x) l s]
theorem idsOne_table_le : ∀ (t l : List ByteArray), (idsOne t l).1.length ≤ t.length + l.length
  | t, [] => by simp [idsOne]
  | t, s :: l => by
    have h1 := idsOne_table_le (addT t s) l
    have h2 := (addT_length t s).2
    simp only [idsOne, List.length_cons]; omega
theorem idsMany_length : ∀ (t : List ByteArray) (ls : List (List ByteArray)), (idsMany t ls).length = ls.length
  | _, [] => rfl
  | t, l :: ls => by simp [idsMany, idsMany_length (idsOne t l).1 ls]
/-- The table behind some files. -/
def tabOf : List ByteArray → List (List ByteArray) → List ByteArray
  | t, [] => t
  | t, l :: ls => tabOf (idsOne t l).1 ls
theorem tabOf_snoc : ∀ (t : List ByteArray) (ls : List (List ByteArray)) (l : List ByteArray), tabOf t (ls ++ [l]) = (idsOne (tabOf t ls) l).1
  | t, [], l => rfl
  | t, x :: ls, l => tabOf_snoc (idsOne t x).1 ls l
theorem idsMany_snoc : ∀ (t : List ByteArray) (ls : List (List ByteArray)) (l : List ByteArray), idsMany t (ls ++ [l]) = idsMany t ls ++ [(idsOne (tabOf t ls) l).2]
  | t, [], l => rfl
  | t, x :: ls, l => by simp [idsMany, tabOf, idsMany_snoc (idsOne t x).1 ls l]
end Go.Proofs.YtbbhdbeaikclcaaGreat.X
-- part XLcsMath
namespace Go.Proofs.YtbbhdbeaikclcaaGreat.X
/-- How long the longest common sequence is. -/
def lcsL : List Int → List Int → Nat
  | [], _ => 0
  | _ :: _, [] => 0
  | x :: xs, y :: ys => if x = y then lcsL xs ys + 1 else max (lcsL xs (y :: ys)) (lcsL (x :: xs) ys)
  termination_by a b => a.length + b.length

@[simp] theorem lcsL_nil_left (b : List Int) : lcsL [] b = 0 := by unfold lcsL; rfl
@[simp] theorem lcsL_nil_right (a : List Int) : lcsL a [] = 0 := by cases a <;> (unfold lcsL; rfl)
theorem lcsL_cons (x y : Int) (xs ys : List Int) : lcsL (x :: xs) (y :: ys) = if x = y then lcsL xs ys + 1 else max (lcsL xs (y :: ys)) (lcsL (x :: xs) ys) := by
  rw [lcsL]

/-- What is done at two suffixes: 0 both are paired, 1 the first list's is passed over, 2 the second's. -/
def stepAt : List Int → List Int → Int
  | x :: xs, y :: ys => if x = y then 0 else if lcsL (x :: xs) ys ≤ lcsL xs (y :: ys) then 1 else 2
  | _, _ => 0

/-- The whole table, row by row. -/
def stepsOf (a b : List Int) : List Int := (List.range (a.length * b.length)).map fun k => stepAt (a.drop (k / b.length)) (b.drop (k % b.length))

/-- With which place of the second list each of the first one's is paired: from the place j on. -/
def matchFrom : List Int → List Int → Nat → List Int
  | [], _, _ => []
  | _ :: xs, [], j => -1 :: matchFrom xs [] j
  | x :: xs, y :: ys, j => if x = y then (j : Int) :: matchFrom xs ys (j + 1) else if lcsL (x :: xs) ys ≤ lcsL xs (y :: ys) then -1 :: matchFrom xs (y :: ys) j else matchFrom (x :: xs) ys (j + 1)
  termination_by a b _ => a.length + b.length

def matchOf (a b : List Int) : List Int := matchFrom a b 0

theorem lcsL_ex (a b : List Int) : ∃ s : List Int, s.Sublist a ∧ s.Sublist b ∧ s.length = lcsL a b := by
  match a, b with
  | [], b => exact ⟨[], by simp, by simp, by simp⟩
  | x :: xs, [] => exact ⟨[], by simp, by simp, by simp⟩
  | x :: xs, y :: ys =>
    rw [lcsL_cons]
    by_cases e : x = y
    · subst e
      rw [if_pos rfl]
      obtain ⟨s, h1, h2, h3⟩ := lcsL_ex xs ys
      exact ⟨x :: s, h1.cons_cons x, h2.cons_cons x, by simp [h3]⟩
    · rw [if_neg e]
      obtain ⟨s, h1, h2, h3⟩ := lcsL_ex xs (y :: ys)
      obtain ⟨s', h1', h2', h3'⟩ := lcsL_ex (x :: xs) ys
      rcases Nat.le_total (lcsL (x :: xs) ys) (lcsL xs (y :: ys)) with h | h
      · exact ⟨s, h1.cons x, h2, by omega⟩
      · exact ⟨s', h1', h2'.cons y, by omega⟩
  termination_by a.length + b.length

theorem lcsL_le_right (a b : List Int) : lcsL a b ≤ b.length := let ⟨_, _, h1, h3⟩ := lcsL_ex a b; h3 ▸ h1.length_le
theorem matchFrom_nil (b : List Int) (j : Nat) : matchFrom [] b j = [] := by unfold matchFrom; rfl
theorem matchFrom_none (x : Int) (xs : List Int) (j : Nat) : matchFrom (x :: xs) [] j = -1 :: matchFrom xs [] j := by rw [matchFrom]
theorem matchFrom_cons (x y : Int) (xs ys : List Int) (j : Nat) : matchFrom (x :: xs) (y :: ys) j = if x = y then (j : Int) :: matchFrom xs ys (j + 1) else if lcsL (x :: xs) ys ≤ lcsL xs (y :: ys) then -1 :: matchFrom xs (y :: ys) j else matchFrom (x :: xs) ys (j + 1) := by rw [matchFrom]
theorem matchFrom_rest (a : List Int) (j : Nat) : matchFrom a [] j = List.replicate a.length (-1) := by
  induction a with
  | nil => rw [matchFrom_nil]; rfl
  | cons x a ih => rw [matchFrom_none, ih]; rfl

theorem matchFrom_length (a b : List Int) (j : Nat) : (matchFrom a b j).length = a.length := by
  match a, b with
  | [], b => simp [matchFrom_nil]
  | x :: xs, [] => simp [matchFrom_rest]
  | x :: xs, y :: ys =>
    rw [matchFrom_cons]
    split
    · simp [matchFrom_length xs ys]
    · split
      · simp [matchFrom_length xs (y :: ys)]
      · exact matchFrom_length (x :: xs) ys _
  termination_by a.length + b.length

/-- All that is told of a match: each place is told -1, or one of b's, that holds the same; they rise; as many are as the longest. -/
def Rises (a b : List Int) (j : Nat) : List Int → Nat → Prop
  | [], n => n = 0 ∧ True
  | m :: ms, n => (m = -1 ∧ Rises a.tail b j ms n) ∨ (∃ k n', m = ((j + k : Nat) : Int) ∧ n = n' + 1 ∧ b[k]? = a.head? ∧ a ≠ [] ∧ Rises a.tail (b.drop (k + 1)) (j + k + 1) ms n')

theorem rises_shift {a b : List Int} {j : Nat} {y : Int} : ∀ {ms : List Int} {n : Nat}, ms.length = a.length → Rises a b (j + 1) ms n → Rises a (y :: b) j ms n := by
  intro ms
  induction ms generalizing a with
  | nil => intro n _ h; exact h
  | cons m ms ih =>
    intro n hl h
    rcases h with ⟨h1, h2⟩ | ⟨k, n', h1, h2, h3, h4, h5⟩
    · exact .inl ⟨h1, ih (by simp at hl ⊢; omega) h2⟩
    · exact .inr ⟨k + 1, n', by rw [h1]; congr 1; omega, h2, by simpa using h3, h4, by rw [show j + (k + 1) + 1 = j + 1 + k + 1 from by omega]; simpa using h5⟩

theorem matchFrom_rises (a b : List Int) (j : Nat) : Rises a b j (matchFrom a b j) (lcsL a b) := by
  match a, b with
  | [], b => rw [matchFrom_nil, lcsL_nil_left]; exact ⟨rfl, trivial⟩
  | x :: xs, [] =>
    rw [matchFrom_none, lcsL_nil_right]
    have := matchFrom_rises xs [] j
    rw [lcsL_nil_right] at this
    exact .inl ⟨rfl, this⟩
  | x :: xs, y :: ys =>
    rw [matchFrom_cons, lcsL_cons]
    by_cases e : x = y
    · subst e
      rw [if_pos rfl, if_pos rfl]
      exact .inr ⟨0, lcsL xs ys, by simp, rfl, by simp, by simp, by simpa using matchFrom_rises xs ys (j + 1)⟩
    · rw [if_neg e, if_neg e]
      by_cases h : lcsL (x :: xs) ys ≤ lcsL xs (y :: ys)
      · rw [if_pos h, Nat.max_eq_left h]
        exact .inl ⟨rfl, matchFrom_rises xs (y :: ys) j⟩
      · rw [if_neg h, Nat.max_eq_right (by omega)]
        exact rises_shift (matchFrom_length _ _ _) (matchFrom_rises (x :: xs) ys (j + 1))
  termination_by a.length + b.length
end Go.Proofs.YtbbhdbeaikclcaaGreat.X
-- part XPairMath
namespace Go.Proofs.YtbbhdbeaikclcaaGreat.X
set_option linter.unusedVariables false
set_option linter.unusedSimpArgs false
theorem addT_self (t : List ByteArray) (s : ByteArray) : s ∈ addT t s := by
  unfold addT; split
  · rename_i h; exact (place_mem s).2 h
  · simp
theorem addT_sub (t : List ByteArray) (s x : ByteArray) (h : x ∈ t) : x ∈ addT t s := by
  unfold addT; split
  · exact h
  · simp [h]
theorem place_addT {t : List ByteArray} {s x : ByteArray} (h : x ∈ t) : place x (addT t s) = place x t := by
  unfold addT; split
  · rfl
  · exact place_append x _ ((place_mem x).1 h)
theorem place_addT_self (t : List ByteArray) (s : ByteArray) : place s (addT t s) = place s t := by
  unfold addT; split
  · rfl
  · rename_i h; rw [place_new s [] h, place_not h]
theorem place_inj {t : List ByteArray} {s s' : ByteArray} (h : s ∈ t) (e : place s t = place s' t) : s = s' := by
  have h1 := (place_mem s).1 h
  have h2 : place s' t < t.length := by omega
  have e1 := place_get s h1
  have e2 := place_get s' h2
  rw [← e1, ← e2]
  congr 1
/-- A text's number in a table. -/
def num (t : List ByteArray) (s : ByteArray) : Int := (place s t : Int)
theorem num_inj {t : List ByteArray} {s s' : ByteArray} (h : s ∈ t) (e : num t s = num t s') : s = s' := place_inj h (by unfold num at e; omega)
theorem idsOne_spec : ∀ (t l : List ByteArray), (∀ x ∈ t, x ∈ (idsOne t l).1 ∧ place x (idsOne t l).1 = place x t) ∧ (∀ x ∈ l, x ∈ (idsOne t l).1) ∧ (idsOne t l).2 = l.map (num (idsOne t l).1)
  | t, [] => ⟨fun x h => ⟨h, rfl⟩, fun x h => by simp at h, rfl⟩
  | t, s :: l => by
    obtain ⟨h1, h2, h3⟩ := idsOne_spec (addT t s) l
    have hs := h1 s (addT_self t s)
    refine ⟨fun x h => ?_, fun x h => ?_, ?_⟩
    · have := h1 x (addT_sub t s x h)
      exact ⟨this.1, this.2.trans (place_addT h)⟩
    · rcases List.mem_cons.1 h with rfl | h
      · exact hs.1
      · exact h2 x h
    · simp only [idsOne, List.map_cons]
      rw [h3]
      congr 1
      unfold num
      rw [hs.2, place_addT_self]
theorem tabOf_spec : ∀ (t : List ByteArray) (ls : List (List ByteArray)), (∀ x ∈ t, x ∈ tabOf t ls ∧ place x (tabOf t ls) = place x t) ∧ (∀ l ∈ ls, ∀ x ∈ l, x ∈ tabOf t ls) ∧ idsMany t ls = ls.map (fun l => l.map (num (tabOf t ls)))
  | t, [] => ⟨fun x h => ⟨h, rfl⟩, fun x h => by simp at h, rfl⟩
  | t, l :: ls => by
    obtain ⟨h1, h2, h3⟩ := tabOf_spec (idsOne t l).1 ls
    obtain ⟨g1, g2, g3⟩ := idsOne_spec t l
    refine ⟨fun x h => ?_, fun k hk x h => ?_, ?_⟩
    · have := h1 x (g1 x h).1
      exact ⟨this.1, this.2.trans (g1 x h).2⟩
    · rcases List.mem_cons.1 hk with rfl | hk
      · exact (h1 x (g2 x h)).1
      · exact h2 k hk x h
    · simp only [idsMany, tabOf, List.map_cons]
      rw [h3, g3]
      congr 1
      refine List.map_congr_left fun x hx => ?_
      unfold num
      rw [(h1 x (g2 x hx)).2]
/-- The numbers of some files' texts: all by one table. -/
theorem idsAll_map (ls : List (List ByteArray)) : idsAll ls = ls.map (fun l => l.map (num (tabOf [] ls))) := (tabOf_spec [] ls).2.2
theorem tabAll {ls : List (List ByteArray)} {l : List ByteArray} (hl : l ∈ ls) {x : ByteArray} (hx : x ∈ l) : x ∈ tabOf [] ls := (tabOf_spec [] ls).2.1 l hl x hx

theorem lcsL_map {α : Type} (f g : α → Int) (a b : List α) (h : ∀ x ∈ a, ∀ y ∈ b, (f x = f y ↔ g x = g y)) : lcsL (a.map f) (b.map f) = lcsL (a.map g) (b.map g) := by
  match a, b with
  | [], b => simp
  | x :: xs, [] => simp
  | x :: xs, y :: ys =>
    simp only [List.map_cons]
    rw [lcsL_cons, lcsL_cons]
    have h1 := lcsL_map f g xs ys (fun u hu v hv => h u (by simp [hu]) v (by simp [hv]))
    have h2 := lcsL_map f g xs (y :: ys) (fun u hu v hv => h u (by simp [hu]) v hv)
    have h3 := lcsL_map f g (x :: xs) ys (fun u hu v hv => h u hu v (by simp [hv]))
    simp only [List.map_cons] at h2 h3
    rw [h1, h2, h3]
    have := h x (by simp) y (by simp)
    by_cases e : f x = f y
    · rw [if_pos e, if_pos (this.1 e)]
    · rw [if_neg e, if_neg (fun e' => e (this.2 e'))]
  termination_by a.length + b.length
theorem matchFrom_map {α : Type} (f g : α → Int) (a b : List α) (j : Nat) (h : ∀ x ∈ a, ∀ y ∈ b, (f x = f y ↔ g x = g y)) : matchFrom (a.map f) (b.map f) j = matchFrom (a.map g) (b.map g) j := by
  match a, b with
  | [], b => simp [matchFrom_nil]
  | x :: xs, [] => simp [matchFrom_rest]
  | x :: xs, y :: ys =>
    simp only [List.map_cons]
    rw [matchFrom_cons, matchFrom_cons]
    have l2 := lcsL_map f g xs (y :: ys) (fun u hu v hv => h u (by simp [hu]) v hv)
    have l3 := lcsL_map f g (x :: xs) ys (fun u hu v hv => h u hu v (by simp [hv]))
    have h1 := matchFrom_map f g xs ys (j + 1) (fun u hu v hv => h u (by simp [hu]) v (by simp [hv]))
    have h2 := matchFrom_map f g xs (y :: ys) j (fun u hu v hv => h u (by simp [hu]) v hv)
    have h3 := matchFrom_map f g (x :: xs) ys (j + 1) (fun u hu v hv => h u hu v (by simp [hv]))
    simp only [List.map_cons] at h2 h3 l2 l3
    rw [h1, h2, h3, l2, l3]
    have := h x (by simp) y (by simp)
    by_cases e : f x = f y
    · rw [if_pos e, if_pos (this.1 e)]
    · rw [if_neg e, if_neg (fun e' => e (this.2 e'))]
  termination_by a.length + b.length
/-- How two lists of texts are paired. -/
def matchS (a b : List ByteArray) : List Int := matchOf (a.map (num (a ++ b))) (b.map (num (a ++ b)))
def lcsS (a b : List ByteArray) : Nat := lcsL (a.map (num (a ++ b))) (b.map (num (a ++ b)))
theorem num_iff {t : List ByteArray} {x y : ByteArray} (h : x ∈ t) : num t x = num t y ↔ x = y := ⟨fun e => num_inj h e, fun e => by rw [e]⟩
theorem matchS_num {t : List ByteArray} {a b : List ByteArray} (h : ∀ x ∈ a, x ∈ t) : matchOf (a.map (num t)) (b.map (num t)) = matchS a b :=
  matchFrom_map _ _ a b 0 fun x hx y hy => (num_iff (h x hx)).trans (num_iff (by simp [hx])).symm
theorem matchS_length (a b : List ByteArray) : (matchS a b).length = a.length := by rw [matchS, matchOf, matchFrom_length, List.length_map]

/-- Each place is told -1, or a place of the list that holds the same; they rise, from lo on. -/
def Fits (list : List ByteArray) : List Int → List ByteArray → Nat → Prop
  | [], [], lo => lo ≤ list.length
  | m :: ms, s :: ss, lo => (m = -1 ∧ Fits list ms ss lo) ∨ (∃ k : Nat, m = (k : Int) ∧ lo ≤ k ∧ list[k]? = some s ∧ Fits list ms ss (k + 1))
  | _, _, _ => False
theorem Fits.len {list : List ByteArray} : ∀ {ms : List Int} {ss : List ByteArray} {lo : Nat}, Fits list ms ss lo → ms.length = ss.length
  | [], [], lo, h => rfl
  | [], _ :: _, lo, h => h.elim
  | _ :: _, [], lo, h => h.elim
  | m :: ms, s :: ss, lo, h => by
    rcases h with ⟨_, h⟩ | ⟨k, _, _, _, h⟩ <;> simp [Fits.len h]
theorem fits_of_rises {f : ByteArray → Int} {list : List ByteArray} : ∀ {ms : List Int} {a b : List ByteArray} {j n : Nat}, list.drop j = b → j ≤ list.length → ms.length = a.length → (∀ x ∈ a, ∀ y ∈ b, f x = f y → x = y) → Rises (a.map f) (b.map f) j ms n → Fits list ms a j
  | [], [], b, j, n, hb, hj, hl, hf, h => hj
  | [], _ :: _, b, j, n, hb, hj, hl, hf, h => by simp at hl
  | _ :: _, [], b, j, n, hb, hj, hl, hf, h => by simp at hl
  | m :: ms, x :: a, b, j, n, hb, hj, hl, hf, h => by
    have hl' : ms.length = a.length := by simpa using hl
    rcases h with ⟨h1, h2⟩ | ⟨k, n', h1, h2, h3, h4, h5⟩
    · exact .inl ⟨h1, fits_of_rises hb hj hl' (fun u hu => hf u (by simp [hu])) h2⟩
    · simp only [List.map_cons, List.head?_cons, List.getElem?_map, Option.map_eq_some_iff] at h3
      obtain ⟨y, hy, e⟩ := h3
      have hym : y ∈ b := List.mem_of_getElem? hy
      have := hf x (by simp) y hym e.symm
      subst this
      rw [← hb, List.getElem?_drop] at hy
      have hlt := (List.getElem?_eq_some_iff.1 hy).1
      refine .inr ⟨j + k, h1, by omega, hy, fits_of_rises (b := b.drop (k + 1)) (n := n') ?_ (by omega) hl' (fun u hu v hv => hf u (by simp [hu]) v (List.mem_of_mem_drop hv)) ?_⟩
      · rw [← hb, List.drop_drop]; rfl
      · rw [List.map_drop]; exact h5
theorem matchS_fits (a b : List ByteArray) : Fits b (matchS a b) a 0 :=
  fits_of_rises (f := num (a ++ b)) (n := lcsS a b) (List.drop_zero ..) (Nat.zero_le _) (matchS_length a b) (fun x hx y _ e => num_inj (by simp [hx]) e) (matchFrom_rises _ _ 0)
end Go.Proofs.YtbbhdbeaikclcaaGreat.X
-- part XGives
namespace Go.Proofs.YtbbhdbeaikclcaaGreat.X
open Go.RowKit Go.Proofs.YtbbhdbeaikclcaaGreatW.PrintWords Go.Proofs.YtbbhdbeaikclcaaGreatW.PrintLast Go.Proofs.YtbbhdbeaikclcaaGreatW.PrintMore
set_option linter.unusedVariables false
set_option linter.unusedSimpArgs false
section
variable {α β : Type} {f g : Nat → Option α} {c : Nat → Option β} {r r' : α} {t : β}
/-- With rounds enough it tells r. -/
def Gives (f : Nat → Option α) (r : α) : Prop := ∃ K, ∀ k, K ≤ k → f k = some r
theorem Gives.pure (h : ∀ k, f k = some r) : Gives f r := ⟨0, fun k _ => h k⟩
theorem Gives.of (h : ∀ k, f (k + 1) = some r) : Gives f r := ⟨1, fun k hk => by obtain ⟨j, rfl⟩ : ∃ j, k = j + 1 := ⟨k - 1, by omega⟩; exact h j⟩
theorem Gives.step (hg : Gives g r) (h : ∀ k, f (k + 1) = g k) : Gives f r := by
  obtain ⟨K, hK⟩ := hg
  exact ⟨K + 1, fun k hk => by obtain ⟨j, rfl⟩ : ∃ j, k = j + 1 := ⟨k - 1, by omega⟩; rw [h j]; exact hK j (by omega)⟩
theorem Gives.same (hg : Gives g r) (h : ∀ k, f k = g k) : Gives f r := by
  obtain ⟨K, hK⟩ := hg
  exact ⟨K, fun k hk => by rw [h k]; exact hK k hk⟩
theorem Gives.call (hc : Gives c t) (hg : Gives g r) (h : ∀ k, c k = some t → f (k + 1) = g k) : Gives f r := by
  obtain ⟨K, hK⟩ := hg
  obtain ⟨C, hC⟩ := hc
  exact ⟨K + C + 1, fun k hk => by obtain ⟨j, rfl⟩ : ∃ j, k = j + 1 := ⟨k - 1, by omega⟩; rw [h j (hC j (by omega))]; exact hK j (by omega)⟩
theorem Gives.call0 (hc : Gives c t) (hg : Gives g r) (h : ∀ k, c k = some t → f k = g k) : Gives f r := by
  obtain ⟨K, hK⟩ := hg
  obtain ⟨C, hC⟩ := hc
  exact ⟨K + C, fun k hk => by rw [h k (hC k (by omega))]; exact hK k (by omega)⟩
theorem Gives.last (hc : Gives c t) (h : ∀ k, c k = some t → f (k + 1) = some r) : Gives f r := by
  obtain ⟨C, hC⟩ := hc
  exact ⟨C + 1, fun k hk => by obtain ⟨j, rfl⟩ : ∃ j, k = j + 1 := ⟨k - 1, by omega⟩; exact h j (hC j (by omega))⟩
theorem Gives.last0 (hc : Gives c t) (h : ∀ k, c k = some t → f k = some r) : Gives f r := by
  obtain ⟨C, hC⟩ := hc
  exact ⟨C, fun k hk => h k (hC k hk)⟩
theorem Gives.eq (h : Gives f r) (e : r = r') : Gives f r' := e ▸ h
end
theorem gw {x : Int} (h : -9223372036854775808 ≤ x) (h2 : x < 9223372036854775808) : wrap64 x = x := by
  unfold wrap64
  omega
theorem gw1 {i : Nat} (h : i < 4611686018427387904) : wrap64 ((i : Int) + 1) = ((i + 1 : Nat) : Int) := by
  rw [gw (by omega) (by omega)]; omega
theorem getN {α : Type} {d : α} {L : List α} {i : Nat} (h : i < L.length) : L.getD (i : Int).toNat d = L[i] := by
  simp [h]
theorem rdOfN {α : Type} {d : α} {L : List α} {i : Nat} (h : i < L.length) : rdOf d L (i : Int) = L[i] := by
  simp [rdOf, h]
theorem rdN {L : List Int} {i : Nat} (h : i < L.length) : rd L (i : Int) = L[i] := by
  simp [rd, h]
theorem btN {s : ByteArray} {i : Nat} (h : i < s.size) : bt s (i : Int) = ((s.data.toList[i]'(by simpa using h)).toNat : Int) := by
  simp [bt, h]; rfl
theorem strEq {a b : ByteArray} : a.toList = b.toList ↔ a = b := by
  constructor
  · intro h
    rw [Lib.toList_data, Lib.toList_data] at h
    exact ByteArray.ext (Array.toList_inj.1 h)
  · rintro rfl; rfl
theorem strBeq {a b : ByteArray} : (a.toList == b.toList) = decide (a = b) := by
  by_cases h : a = b
  · subst h; simp
  · rw [decide_eq_false h, beq_eq_false_iff_ne]
    exact fun e => h (strEq.1 e)
theorem sizeLen (s : ByteArray) : s.size = s.data.toList.length := by simp
theorem dropCons {α : Type} {l : List α} {i : Nat} (h : i < l.length) : l.drop i = l[i] :: l.drop (i + 1) := List.drop_eq_getElem_cons h
end Go.Proofs.YtbbhdbeaikclcaaGreat.X
-- part XConcatS
namespace Go.Proofs.YtbbhdbeaikclcaaGreat.X
open Go.RowKit Go.Proofs.YtbbhdbeaikclcaaGreatW.PrintWords Go.Proofs.YtbbhdbeaikclcaaGreatW.PrintLast Go.Proofs.YtbbhdbeaikclcaaGreatW.PrintMore
set_option linter.unusedVariables false
set_option linter.unusedSimpArgs false
set_option maxRecDepth 100000 in
set_option maxHeartbeats 2000000 in
theorem grow_strs (w0 w : World) (n : Nat) (hn : n ≤ 1000000) (hw : Below w0.heap.size w0 w) :
    Calls Tryz.prog 117 #[.slice none 0 0, .int .i64 (n : Int)] w fun e w' => ∃ v, e = .returned v ∧ Aside0 (Kd.string.R 9 w' w.heap.size (fun _ => True) v []) ∧ Aside0 (Below w.heap.size w w') := by
  by_cases h0 : n = 0
  · subst h0
    go_enter Tryz.func117, Tryz.ntmps117
    go_wp2
    go_ret
    exact ⟨_, rfl, ⟨Kd.R_nil _ _ _ _ _⟩, ⟨Below.refl _ _⟩⟩
  · have d0 : decide ((n : Int) < 0) = false := decide_eq_false (by omega)
    have d1 : decide (0 < (n : Int)) = true := decide_eq_true (by omega)
    have d2 : decide (0 < n) = true := decide_eq_true (by omega)
    go_enter Tryz.func117, Tryz.ntmps117
    go_wp2_with (first
      | (at_builtin; refine Kd.R_append_zeros Kd.string (w0 := w) w.heap.size rfl (.tmp 20) (.tmp 21) 22 3 9 (.string ⟨#[]⟩) 16 rfl Tryz.underlying22 Tryz.underlying3 info9 rfl (by decide) (by decide) (.slice none 0 0) [] ByteArray.empty (kx := .i64) (n : Int) (fun _ => True) rfl rfl rfl (fun _ _ => trivial) (Kd.R_nil _ _ _ _ _) (by omega) (Below.refl _ _) (Nat.le_refl _) (by simp; omega) ?_; intro v1 w1 ho1 hb1 hg1 hat1; obtain ⟨A1, c1, hv1⟩ := Kd.R_slice ho1; subst hv1; have HO1 := Aside0.mk (Kd.R_take ho1 (Nat.zero_le _)); have HB1 := Aside0.mk hb1; have hlen : ([] ++ List.replicate (n : Int).toNat ByteArray.empty).length = n := (by simp); rw [hlen]; clear ho1 hb1 hg1 hat1 hlen))
    go_ret
    exact ⟨_, rfl, ⟨by simpa using HO1.out⟩, HB1⟩
set_option maxRecDepth 100000 in
set_option maxHeartbeats 4000000 in
theorem concat_strs (A : Option Addr) (c : Nat) (L : List (List ByteArray)) (w : World) (hC : Kd.C (Kd.slice 9 Kd.string) w A L.length L) (hc : L.length ≤ c) (hL : L.length ≤ 1000) (hl : L.flatten.length ≤ 1000000) :
    Calls Tryz.prog 105 #[.slice A L.length c] w fun e w' => ∃ v, e = .returned v ∧ Aside0 (Kd.string.R 9 w' w.heap.size (fun _ => True) v L.flatten) ∧ Aside0 (Below w.heap.size w w') := by
  have HC := Aside0.mk hC
  have HL := Aside0.mk hl
  have hsum : ∀ k, ((L.take k).map List.length).sum ≤ L.flatten.length := fun k => by
    have e : L.flatten.length = ((L.take k).map List.length).sum + ((L.drop k).map List.length).sum := by
      rw [List.length_flatten, ← List.sum_append, ← List.map_append, List.take_append_drop]
    omega
  have HSUM := Aside0.mk hsum
  clear hC hl hsum
  go_enter Tryz.func105, Tryz.ntmps105
  go_wp2_with fail
  go_loop [3, 5, 11] (fun s _ i => ∃ (k : Nat), k ≤ L.length ∧ i = .int .i64 k ∧ s = .int .i64 (((L.take k).map List.length).sum : Nat)) (fun _ _ i => L.length - (intOf i).toNat)
  case atStart => exact ⟨0, Nat.zero_le _, rfl, rfl⟩
  case round =>
    obtain ⟨k, hk, rfl, rfl⟩ := hrel
    obtain ⟨s, hs⟩ : ∃ s, ((L.take k).map List.length).sum = s := ⟨_, rfl⟩
    have hsb : s ≤ 1000000 := by have := HSUM.out k; have := HL.out; omega
    rw [hs]
    have HS := Aside0.mk hs
    clear hs
    by_cases hlt : k < L.length
    · obtain ⟨ad, A5, c5, rfl, hrow, hc5, hC5⟩ := at_slice HC.out k hlt
      obtain ⟨l, hle⟩ : ∃ l, L.getD k [] = l := ⟨_, rfl⟩
      have htk : L.take (k + 1) = L.take k ++ [l] := by rw [← hle, getD_get hlt, List.take_append_getElem hlt]
      rw [hle] at hrow
      have hs2 : ((L.take (k + 1)).map List.length).sum = s + l.length := by
        rw [htk, List.map_append, List.sum_append, HS.out]; simp
      have hb2 : s + l.length ≤ 1000000 := by have := HSUM.out (k + 1); have := HL.out; omega
      have HS2 := Aside0.mk hs2
      obtain ⟨n, hn⟩ : ∃ n, l.length = n := ⟨_, rfl⟩
      rw [hn] at hrow hb2 HS2
      have d0 : decide ((s : Int) + (n : Int) < 0) = false := decide_eq_false (by omega)
      clear hle htk hs2 hC5 hn
      go_wp2
      go_round
      case measure => simp [intOf]; omega
      case rel => exact ⟨k + 1, by omega, by go_num, by rw [HS2.out]; go_num⟩
    · have hk' : k = L.length := by omega
      subst hk'
      rw [List.take_length, ← List.length_flatten] at HS
      have hs' := HS.out
      subst hs'
      clear HS
      obtain ⟨n, hn⟩ : ∃ n, L.flatten.length = n := ⟨_, rfl⟩
      rw [hn] at hsb HL ⊢
      have HN := Aside0.mk hn
      clear hn
      go_wp2_with fail
      refine (grow_strs w _ n hsb (Below.refl _ _)).mono ?_
      rintro e w1 ⟨v1, rfl, HR1, HB1⟩
      obtain ⟨A1, c1, rfl⟩ := Kd.R_slice HR1.out
      go_wp2_with fail
      go_loopw [6, 8, 27] (fun v0 _ i wr => ∃ (k : Nat) (Ao : Option Addr) (co m : Nat), v0 = .slice Ao m co ∧ k ≤ L.length ∧ i = .int .i64 k ∧ Aside0 (Kd.string.R 9 wr w.heap.size (fun _ => True) (.slice Ao m co) (L.take k).flatten) ∧ Aside0 (Below w.heap.size w wr)) (fun _ _ i _ => L.length - (intOf i).toNat)
      case atStart => exact ⟨0, _, _, _, rfl, Nat.zero_le _, rfl, HR1, HB1⟩
      case round =>
        obtain ⟨k, Ao, co, m, rfl, hk, rfl, HR, HB⟩ := hrel
        by_cases hlt : k < L.length
        · obtain ⟨ad, A5, c5, rfl, hrow, hc5, hC5⟩ := at_slice HC.out k hlt
          obtain ⟨l, hle⟩ : ∃ l, L.getD k [] = l := ⟨_, rfl⟩
          have htk : (L.take (k + 1)).flatten = (L.take k).flatten ++ l := by rw [← hle, getD_get hlt, ← List.take_append_getElem hlt, List.flatten_append]; simp
          have HTK := Aside0.mk htk
          rw [hle] at hrow hC5
          replace hrow := (HB.out.cell (World.block_lt_of_cell? w _ hrow)).trans hrow
          have HC5 : Aside0 (Kd.string.C wr A5 l.length l) := ⟨Kd.C_below hC5 HB.out⟩
          have hlim : (L.take k).flatten.length + l.length ≤ 1000000 := by
            have h1 := HSUM.out (k + 1)
            have h2 := HL.out
            have h3 := congrArg List.length htk
            rw [List.length_append, List.length_flatten] at h3
            rw [HN.out] at h1
            omega
          have HLIM := Aside0.mk hlim
          clear hle htk hC5 hlim
          go_wp2_with (first
            | (at_builtin; refine Kd.R_append_rows Kd.string (Rr := Kd.string.K wr) (w0 := w) w.heap.size rfl (.tmp 31) (.tmp 32) 22 9 (.string ⟨#[]⟩) 16 rfl Tryz.underlying22 info9 rfl (by decide) (by decide) (.slice Ao m co) (L.take k).flatten l A5 l.length c5 (fun _ => True) (fun _ => False) rfl rfl HR.out HC5.out (fun _ _ h => h) (fun _ h => h.elim) (fun _ _ => trivial) HB.out HB.out.size (by have := HLIM.out; omega) ?_; intro v2 w2 ho2 hb2 hg2 hat2; obtain ⟨A2, c2, hv2⟩ := Kd.R_slice ho2; subst hv2; generalize ((L.take k).flatten ++ l).length = m2 at ho2 ⊢; have HO2 := Aside0.mk ho2; have HB2 := Aside0.mk hb2; clear ho2 hb2 hg2 hat2))
          go_roundw
          case measure => simp [intOf]; omega
          case rel => exact ⟨k + 1, _, _, _, rfl, by omega, by go_num, by rw [HTK.out]; exact HO2, HB2⟩
        · have hk' : k = L.length := by omega
          subst hk'
          rw [List.take_length] at HR
          go_wp2
          go_ret
          exact ⟨_, rfl, HR, HB⟩
end Go.Proofs.YtbbhdbeaikclcaaGreat.X
-- part XConcat
namespace Go.Proofs.YtbbhdbeaikclcaaGreat.X
open Go.RowKit Go.Proofs.YtbbhdbeaikclcaaGreatW.PrintWords Go.Proofs.YtbbhdbeaikclcaaGreatW.PrintLast Go.Proofs.YtbbhdbeaikclcaaGreatW.PrintMore
set_option linter.unusedVariables false
set_option linter.unusedSimpArgs false
abbrev KS : Kd (List ByteArray) := Kd.slice 9 Kd.string
set_option maxRecDepth 100000 in
set_option maxHeartbeats 2000000 in
theorem grow_lists (w0 w : World) (n : Nat) (hn : n ≤ 1000000) (hw : Below w0.heap.size w0 w) :
    Calls Tryz.prog 61 #[.slice none 0 0, .int .i64 (n : Int)] w fun e w' => ∃ v, e = .returned v ∧ Aside0 ((heldK w0 KS).R 22 w' w.heap.size (fun _ => True) v []) ∧ Aside0 (Below w.heap.size w w') := by
  by_cases h0 : n = 0
  · subst h0
    go_enter Tryz.func61, Tryz.ntmps61
    go_wp2
    go_ret
    exact ⟨_, rfl, ⟨Kd.R_nil _ _ _ _ _⟩, ⟨Below.refl _ _⟩⟩
  · have d0 : decide ((n : Int) < 0) = false := decide_eq_false (by omega)
    have d1 : decide (0 < (n : Int)) = true := decide_eq_true (by omega)
    have d2 : decide (0 < n) = true := decide_eq_true (by omega)
    go_enter Tryz.func61, Tryz.ntmps61
    go_wp2_with (first
      | (at_builtin; refine Kd.R_append_zeros (heldK w0 KS) (w0 := w) w.heap.size rfl (.tmp 20) (.tmp 21) 23 3 22 (.slice none 0 0) 24 rfl Tryz.underlying23 Tryz.underlying3 info22 rfl Nat.zero_lt_one (by decide) (.slice none 0 0) [] [] (kx := .i64) (n : Int) (fun _ => True) rfl rfl (strs_nil _) (fun _ _ => trivial) (Kd.R_nil _ _ _ _ _) (by omega) (Below.refl _ _) (Nat.le_refl _) (by simp; omega) ?_; intro v1 w1 ho1 hb1 hg1 hat1; obtain ⟨A1, c1, hv1⟩ := Kd.R_slice ho1; subst hv1; have HO1 := Aside0.mk (Kd.R_take ho1 (Nat.zero_le _)); have HB1 := Aside0.mk hb1; have hlen : ([] ++ List.replicate (n : Int).toNat ([] : List ByteArray)).length = n := (by simp); rw [hlen]; clear ho1 hb1 hg1 hat1 hlen))
    go_ret
    exact ⟨_, rfl, ⟨by simpa using HO1.out⟩, HB1⟩
set_option maxRecDepth 100000 in
set_option maxHeartbeats 4000000 in
theorem concat_lists (A : Option Addr) (c : Nat) (L : List (List (List ByteArray))) (w : World) (hC : Kd.C (Kd.slice 22 KS) w A L.length L) (hc : L.length ≤ c) (hL : L.length ≤ 1000) (hl : L.flatten.length ≤ 1000000) :
    Calls Tryz.prog 33 #[.slice A L.length c] w fun e w' => ∃ v, e = .returned v ∧ Aside0 ((heldK w KS).R 22 w' w.heap.size (fun _ => True) v L.flatten) ∧ Aside0 (Below w.heap.size w w') := by
  have HC := Aside0.mk hC
  have HL := Aside0.mk hl
  have hsum : ∀ k, ((L.take k).map List.length).sum ≤ L.flatten.length := fun k => by
    have e : L.flatten.length = ((L.take k).map List.length).sum + ((L.drop k).map List.length).sum := by
      rw [List.length_flatten, ← List.sum_append, ← List.map_append, List.take_append_drop]
    omega
  have HSUM := Aside0.mk hsum
  clear hC hl hsum
  go_enter Tryz.func33, Tryz.ntmps33
  go_wp2_with fail
  go_loop [3, 5, 11] (fun s _ i => ∃ (k : Nat), k ≤ L.length ∧ i = .int .i64 k ∧ s = .int .i64 (((L.take k).map List.length).sum : Nat)) (fun _ _ i => L.length - (intOf i).toNat)
  case atStart => exact ⟨0, Nat.zero_le _, rfl, rfl⟩
  case round =>
    obtain ⟨k, hk, rfl, rfl⟩ := hrel
    obtain ⟨s, hs⟩ : ∃ s, ((L.take k).map List.length).sum = s := ⟨_, rfl⟩
    have hsb : s ≤ 1000000 := by have := HSUM.out k; have := HL.out; omega
    rw [hs]
    have HS := Aside0.mk hs
    clear hs
    by_cases hlt : k < L.length
    · obtain ⟨ad, A5, c5, rfl, hrow, hc5, hC5⟩ := at_slice HC.out k hlt
      obtain ⟨l, hle⟩ : ∃ l, L.getD k [] = l := ⟨_, rfl⟩
      have htk : L.take (k + 1) = L.take k ++ [l] := by rw [← hle, getD_get hlt, List.take_append_getElem hlt]
      rw [hle] at hrow
      have hs2 : ((L.take (k + 1)).map List.length).sum = s + l.length := by
        rw [htk, List.map_append, List.sum_append, HS.out]; simp
      have hb2 : s + l.length ≤ 1000000 := by have := HSUM.out (k + 1); have := HL.out; omega
      have HS2 := Aside0.mk hs2
      obtain ⟨n, hn⟩ : ∃ n, l.length = n := ⟨_, rfl⟩
      rw [hn] at hrow hb2 HS2
      have d0 : decide ((s : Int) + (n : Int) < 0) = false := decide_eq_false (by omega)
      clear hle htk hs2 hC5 hn
      go_wp2
      go_round
      case measure => simp [intOf]; omega
      case rel => exact ⟨k + 1, by omega, by go_num, by rw [HS2.out]; go_num⟩
    · have hk' : k = L.length := by omega
      subst hk'
      rw [List.take_length, ← List.length_flatten] at HS
      have hs' := HS.out
      subst hs'
      clear HS
      obtain ⟨n, hn⟩ : ∃ n, L.flatten.length = n := ⟨_, rfl⟩
      rw [hn] at hsb HL ⊢
      have HN := Aside0.mk hn
      clear hn
      go_wp2_with fail
      refine (grow_lists w _ n hsb (Below.refl _ _)).mono ?_
      rintro e w1 ⟨v1, rfl, HR1, HB1⟩
      obtain ⟨A1, c1, rfl⟩ := Kd.R_slice HR1.out
      go_wp2_with fail
      go_loopw [6, 8, 27] (fun v0 _ i wr => ∃ (k : Nat) (Ao : Option Addr) (co m : Nat), v0 = .slice Ao m co ∧ k ≤ L.length ∧ i = .int .i64 k ∧ Aside0 ((heldK w KS).R 22 wr w.heap.size (fun _ => True) (.slice Ao m co) (L.take k).flatten) ∧ Aside0 (Below w.heap.size w wr)) (fun _ _ i _ => L.length - (intOf i).toNat)
      case atStart => exact ⟨0, _, _, _, rfl, Nat.zero_le _, rfl, HR1, HB1⟩
      case round =>
        obtain ⟨k, Ao, co, m, rfl, hk, rfl, HR, HB⟩ := hrel
        by_cases hlt : k < L.length
        · obtain ⟨ad, A5, c5, rfl, hrow, hc5, hC5⟩ := at_slice HC.out k hlt
          obtain ⟨l, hle⟩ : ∃ l, L.getD k [] = l := ⟨_, rfl⟩
          have htk : (L.take (k + 1)).flatten = (L.take k).flatten ++ l := by rw [← hle, getD_get hlt, ← List.take_append_getElem hlt, List.flatten_append]; simp
          have HTK := Aside0.mk htk
          rw [hle] at hrow hC5
          replace hrow := (HB.out.cell (World.block_lt_of_cell? w _ hrow)).trans hrow
          have HC5 : Aside0 ((heldK w KS).C wr A5 l.length l) := ⟨held_C hC5 HB.out⟩
          have hlim : (L.take k).flatten.length + l.length ≤ 1000000 := by
            have h1 := HSUM.out (k + 1)
            have h2 := HL.out
            have h3 := congrArg List.length htk
            rw [List.length_append, List.length_flatten] at h3
            rw [HN.out] at h1
            omega
          have HLIM := Aside0.mk hlim
          clear hle htk hC5 hlim
          go_wp2_with (first
            | (at_builtin; refine Kd.R_append_rows (heldK w KS) (Rr := (heldK w KS).K wr) (w0 := w) w.heap.size rfl (.tmp 31) (.tmp 32) 23 22 (.slice none 0 0) 24 rfl Tryz.underlying23 info22 rfl Nat.zero_lt_one (by decide) (.slice Ao m co) (L.take k).flatten l A5 l.length c5 (fun _ => True) (fun _ => False) rfl rfl HR.out HC5.out (fun _ _ h => h) (fun _ h => h.elim) (fun _ _ => trivial) HB.out HB.out.size (by have := HLIM.out; omega) ?_; intro v2 w2 ho2 hb2 hg2 hat2; obtain ⟨A2, c2, hv2⟩ := Kd.R_slice ho2; subst hv2; generalize ((L.take k).flatten ++ l).length = m2 at ho2 ⊢; have HO2 := Aside0.mk ho2; have HB2 := Aside0.mk hb2; clear ho2 hb2 hg2 hat2))
          go_roundw
          case measure => simp [intOf]; omega
          case rel => exact ⟨k + 1, _, _, _, rfl, by omega, by go_num, by rw [HTK.out]; exact HO2, HB2⟩
        · have hk' : k = L.length := by omega
          subst hk'
          rw [List.take_length] at HR
          go_wp2
          go_ret
          exact ⟨_, rfl, HR, HB⟩
end Go.Proofs.YtbbhdbeaikclcaaGreat.X
-- part XDiffer
namespace Go.Proofs.YtbbhdbeaikclcaaGreat.X
open Go.RowKit Go.Proofs.YtbbhdbeaikclcaaGreatW.PrintWords Go.Proofs.YtbbhdbeaikclcaaGreatW.PrintLast Go.Proofs.YtbbhdbeaikclcaaGreatW.PrintMore
set_option linter.unusedVariables false
set_option linter.unusedSimpArgs false
abbrev KSs : Kd (List ByteArray) := Kd.slice 9 Kd.string
theorem equal_l0 (a b : List ByteArray) (hl : a.length = b.length) (hm : a.length ≤ 1000000000000) : ∀ (r i : Nat), i + r = a.length → Gives (fun k => slices_Equal_string_string.l0 k a b (a.length : Int) (i : Int)) (decide (a.drop i = b.drop i))
  | 0, i, hi => Gives.of fun k => by
    rw [slices_Equal_string_string.l0, if_neg (by omega)]
    have e1 : a.drop i = [] := List.drop_eq_nil_of_le (by omega)
    have e2 : b.drop i = [] := List.drop_eq_nil_of_le (by omega)
    rw [e1, e2]; rfl
  | r + 1, i, hi => by
    have ha : i < a.length := by omega
    have hb : i < b.length := by omega
    have ih := equal_l0 a b hl hm r (i + 1) (by omega)
    rw [dropCons ha, dropCons hb]
    by_cases e : a[i] = b[i]
    · rw [e]
      have e2 : decide (b[i] :: a.drop (i + 1) = b[i] :: b.drop (i + 1)) = decide (a.drop (i + 1) = b.drop (i + 1)) := decide_eq_decide.2 ⟨fun h => (List.cons.inj h).2, fun h => by rw [h]⟩
      rw [e2]
      refine ih.step fun k => ?_
      show slices_Equal_string_string.l0 (k + 1) a b _ _ = _
      rw [slices_Equal_string_string.l0, if_pos (by omega), if_pos (by omega), if_pos (by omega), if_pos (by omega), rdOfN ha, rdOfN hb, if_pos (by rw [e]), gw1 (by omega)]
    · have e2 : decide (a[i] :: a.drop (i + 1) = b[i] :: b.drop (i + 1)) = false := decide_eq_false (fun h => e (List.cons.inj h).1)
      rw [e2]
      refine Gives.of fun k => ?_
      rw [slices_Equal_string_string.l0, if_pos (by omega), if_pos (by omega), if_pos (by omega), if_pos (by omega), rdOfN ha, rdOfN hb, if_neg (fun h => e (strEq.1 h))]
theorem equal_gives (a b : List ByteArray) (hm : a.length ≤ 1000000000000) : Gives (fun k => slices_Equal_string_string.f k a b) (decide (a = b)) := by
  by_cases hl : a.length = b.length
  · have h := equal_l0 a b hl hm a.length 0 (by omega)
    refine h.same fun k => ?_
    rw [slices_Equal_string_string.f, if_pos (by rw [hl])]; rfl
  · have e : decide (a = b) = false := decide_eq_false (fun h => hl (by rw [h]))
    rw [e]
    refine Gives.pure fun k => ?_
    rw [slices_Equal_string_string.f, if_neg (by omega)]
theorem slices_equal (a b : List ByteArray) (Aa : Option Addr) (ca : Nat) (Ab : Option Addr) (cb : Nat) (w : World) (ha : Kd.C Kd.string w Aa a.length a) (la : a.length ≤ ca) (hb : Kd.C Kd.string w Ab b.length b) (lb : b.length ≤ cb) (hm : a.length ≤ 1000000000000) :
    Calls Tryz.prog 114 #[.slice Aa a.length ca, .slice Ab b.length cb] w fun e w' => e = .returned (.bool (decide (a = b))) ∧ Drawn0 w w' := by
  obtain ⟨K, hK⟩ := equal_gives a b hm
  exact slices_Equal_string_string.calls K Aa ca a Ab cb b _ w ha la hb lb (hK K (Nat.le_refl _))
/-- Is it the same as the one that is captured? -/
theorem others_1 (g5 g9 : Nat) (y z : List ByteArray) (Ay : Option Addr) (cy : Nat) (Az : Option Addr) (cz : Nat) (w : World) (h5 : w.cell? ⟨g5, 0, none⟩ = some (.func (.func 114) #[] #[])) (h9 : w.cell? ⟨g9, 0, none⟩ = some (.slice Ay y.length cy))
    (hy : Kd.C Kd.string w Ay y.length y) (ly : y.length ≤ cy) (hz : Kd.C Kd.string w Az z.length z) (lz : z.length ≤ cz) (hm : y.length ≤ 1000000000000) :
    Calls Tryz.prog 126 #[.slice Az z.length cz, .pointer (some ⟨g5, 0, none⟩), .pointer (some ⟨g9, 0, none⟩)] w fun e w' => e = .returned (.bool (decide (y = z))) ∧ Drawn0 w w' := by
  have HY := Aside0.mk hy
  have HZ := Aside0.mk hz
  obtain ⟨q, hq⟩ : ∃ q, decide (y = z) = q := ⟨_, rfl⟩
  have HQ := Aside0.mk hq
  clear hy hz
  rw [hq]
  clear hq
  go_enter Tryz.func126, Tryz.ntmps126
  go_wp2_with fail
  refine (slices_equal y z Ay cy Az cz _ HY.out ly HZ.out lz hm).mono ?_
  rintro e w' ⟨rfl, n, rfl⟩
  rw [HQ.out]
  go_wp2
  go_ret
  exact ⟨rfl, ⟨_, rfl⟩⟩
/-- The first place of what is the same; -1: none. -/
def findY (y : List ByteArray) (L : List (List ByteArray)) : Int := match L.findIdx? (fun z => decide (y = z)) with | some i => (i : Int) | none => -1
theorem findY_go {y : List ByteArray} {L : List (List ByteArray)} {k : Nat} (hk : k < L.length) (h : ∀ l ∈ L.take k, decide (y = l) = false) (hp : decide (y = L[k]) = true) : findY y L = (k : Int) := by
  have : L.findIdx? (fun z => decide (y = z)) = some k := by
    rw [List.findIdx?_eq_some_iff_getElem]
    exact ⟨hk, hp, fun j hj => by
      have : L[j] ∈ L.take k := by
        rw [List.mem_take_iff_getElem]; exact ⟨j, by omega, rfl⟩
      show ¬ decide (y = L[j]) = true
      rw [h _ this]; decide⟩
  rw [findY, this]
theorem findY_none {y : List ByteArray} {L : List (List ByteArray)} (h : ∀ l ∈ L, decide (y = l) = false) : findY y L = -1 := by
  have : L.findIdx? (fun z => decide (y = z)) = none := List.findIdx?_eq_none_iff.2 (fun x hx => h x hx)
  rw [findY, this]
theorem findY_any (y : List ByteArray) (L : List (List ByteArray)) : L.any (fun z => decide (y = z)) = decide (0 ≤ findY y L) := by
  rw [findY]
  cases h : L.findIdx? (fun z => decide (y = z)) with
  | none =>
    have := List.findIdx?_eq_none_iff.1 h
    show _ = false
    rw [List.any_eq_false]
    exact fun x hx => by rw [this x hx]; decide
  | some i =>
    obtain ⟨hi, h1, _⟩ := List.findIdx?_eq_some_iff_getElem.1 h
    have : decide ((0 : Int) ≤ (i : Int)) = true := decide_eq_true (by omega)
    show _ = decide ((0 : Int) ≤ (i : Int))
    rw [this, List.any_eq_true]
    exact ⟨_, List.getElem_mem hi, h1⟩
set_option maxRecDepth 100000 in
set_option maxHeartbeats 2000000 in
theorem index_is (g5 g9 : Nat) (y : List ByteArray) (Ay : Option Addr) (cy : Nat) (A : Option Addr) (c : Nat) (L : List (List ByteArray)) (w : World) (h5 : w.cell? ⟨g5, 0, none⟩ = some (.func (.func 114) #[] #[])) (h9 : w.cell? ⟨g9, 0, none⟩ = some (.slice Ay y.length cy))
    (hy : Kd.C Kd.string w Ay y.length y) (ly : y.length ≤ cy) (hm : y.length ≤ 1000000000000) (hC : Kd.C KSs w A L.length L) (hc : L.length ≤ c) (hL : L.length ≤ 1000000) :
    Calls Tryz.prog 94 #[.slice A L.length c, .func (.func 126) #[] #[.pointer (some ⟨g5, 0, none⟩), .pointer (some ⟨g9, 0, none⟩)]] w fun e w' => e = .returned (.int .i64 (findY y L)) ∧ Drawn0 w w' := by
  have HC := Aside0.mk hC
  have HY := Aside0.mk hy
  have H5 := Aside0.mk h5
  have H9 := Aside0.mk h9
  clear hC hy h5 h9
  obtain ⟨R, hR⟩ : ∃ R, findY y L = R := ⟨_, rfl⟩
  have HR := Aside0.mk hR
  rw [hR]
  clear hR
  go_enter Tryz.func94, Tryz.ntmps94
  go_wp2_with fail
  go_loopw [8, 5] (fun i _ wr => ∃ (k : Nat), k ≤ L.length ∧ i = .int .i64 k ∧ Aside0 (∀ l ∈ L.take k, decide (y = l) = false) ∧ Aside0 (Drawn0 w wr)) (fun i _ _ => L.length - (intOf i).toNat)
  case atStart => exact ⟨0, Nat.zero_le _, rfl, ⟨by simp⟩, ⟨Drawn0.refl _⟩⟩
  case round =>
    obtain ⟨k, hk, rfl, HF, HD⟩ := hrel
    by_cases hlt : k < L.length
    · obtain ⟨ad, A5, c5, rfl, hrow, hc5, hC5⟩ := at_slice HC.out k hlt
      obtain ⟨n, hn⟩ := HD.out
      subst hn
      replace hrow : (w.drewN n).cell? (ad.add k) = some (.slice A5 (L.getD k []).length c5) := by simpa using hrow
      obtain ⟨l, hle⟩ : ∃ l, L.getD k [] = l := ⟨_, rfl⟩
      have hlk : L[k] = l := by rw [← hle]; simp [hlt]
      have HLK := Aside0.mk hlk
      rw [hle] at hrow hc5 hC5
      have HC5 : Aside0 (Kd.C Kd.string (w.drewN n) A5 l.length l) := ⟨Kd.C_drewN hC5 _⟩
      have HCY : Aside0 (Kd.C Kd.string (w.drewN n) Ay y.length y) := ⟨Kd.C_drewN HY.out _⟩
      have H5n : Aside0 ((w.drewN n).cell? ⟨g5, 0, none⟩ = some (.func (.func 114) #[] #[])) := ⟨by simpa using H5.out⟩
      have H9n : Aside0 ((w.drewN n).cell? ⟨g9, 0, none⟩ = some (.slice Ay y.length cy)) := ⟨by simpa using H9.out⟩
      have Hc5 := Aside0.mk hc5
      clear hc5 hC5 hle hlk
      obtain ⟨q, hq⟩ : ∃ q, decide (y = l) = q := ⟨_, rfl⟩
      have HPL := Aside0.mk hq
      clear hq
      go_wp2_with fail
      refine (others_1 g5 g9 y l Ay cy A5 c5 _ H5n.out H9n.out HCY.out ly HC5.out Hc5.out hm).mono ?_
      rintro e' w' ⟨rfl, n2, rfl⟩
      rw [HPL.out]
      cases q with
      | false =>
        go_wp2
        go_roundw
        case measure => simp [intOf]; omega
        case rel => exact ⟨k + 1, by omega, by go_num, ⟨fun x hx => by
          rw [← List.take_append_getElem hlt] at hx
          rcases List.mem_append.1 hx with hx | hx
          · exact HF.out x hx
          · rw [List.mem_singleton.1 hx, HLK.out]; exact HPL.out⟩, ⟨by first | exact ⟨_, rfl⟩ | exact ⟨_, World.drewN_drewN _ _ _⟩⟩⟩
      | true =>
        have HFK : Aside0 (R = (k : Int)) := ⟨HR.out.symm.trans (findY_go hlt HF.out (by rw [HLK.out]; exact HPL.out))⟩
        go_wp2
        go_ret
        exact ⟨by rw [HFK.out]; rfl, by first | exact ⟨_, rfl⟩ | exact ⟨_, World.drewN_drewN _ _ _⟩⟩
    · have hk' : k = L.length := by omega
      subst hk'
      rw [List.take_length] at HF
      have HFN : Aside0 (R = -1) := ⟨HR.out.symm.trans (findY_none HF.out)⟩
      have HD' := HD.out
      go_wp2
      go_ret
      exact ⟨by rw [HFN.out]; rfl, HD'⟩
set_option maxHeartbeats 2000000 in
theorem contains_is (g5 g9 : Nat) (y : List ByteArray) (Ay : Option Addr) (cy : Nat) (A : Option Addr) (c : Nat) (L : List (List ByteArray)) (w : World) (h5 : w.cell? ⟨g5, 0, none⟩ = some (.func (.func 114) #[] #[])) (h9 : w.cell? ⟨g9, 0, none⟩ = some (.slice Ay y.length cy))
    (hy : Kd.C Kd.string w Ay y.length y) (ly : y.length ≤ cy) (hm : y.length ≤ 1000000000000) (hC : Kd.C KSs w A L.length L) (hc : L.length ≤ c) (hL : L.length ≤ 1000000) :
    Calls Tryz.prog 65 #[.slice A L.length c, .func (.func 126) #[] #[.pointer (some ⟨g5, 0, none⟩), .pointer (some ⟨g9, 0, none⟩)]] w fun e w' => e = .returned (.bool (L.any (fun z => decide (y = z)))) ∧ Drawn0 w w' := by
  obtain ⟨q, hq⟩ : ∃ q, findY y L = q := ⟨_, rfl⟩
  have hany := findY_any y L
  rw [hq] at hany
  have HANY := Aside0.mk hany
  have HQ := Aside0.mk hq
  have HC := Aside0.mk hC
  have HY := Aside0.mk hy
  have H5 := Aside0.mk h5
  have H9 := Aside0.mk h9
  clear hany hq hC hy h5 h9
  go_enter Tryz.func65, Tryz.ntmps65
  go_wp2_with fail
  refine (index_is g5 g9 y Ay cy A c L _ H5.out H9.out HY.out ly hm HC.out hc hL).mono ?_
  rintro e w1 ⟨rfl, n, rfl⟩
  rw [HQ.out]
  go_wp2
  go_ret
  exact ⟨by rw [HANY.out]; rfl, ⟨_, rfl⟩⟩
def differStep (x : List ByteArray) (out : List (List ByteArray)) (y : List ByteArray) : List (List ByteArray) := if decide (y = x) = false ∧ out.any (fun z => decide (y = z)) = false then out ++ [y] else out
def differF (x : List ByteArray) (l : List (List ByteArray)) : List (List ByteArray) := l.foldl (differStep x) []
theorem differF_snoc (x : List ByteArray) (l : List (List ByteArray)) (y : List ByteArray) : differF x (l ++ [y]) = differStep x (differF x l) y := by rw [differF, differF, List.foldl_append]; rfl
theorem differF_len (x : List ByteArray) : ∀ (n : Nat) (l : List (List ByteArray)), l.length = n → (differF x l).length ≤ n
  | 0, l, h => by rw [List.eq_nil_of_length_eq_zero h]; exact Nat.le_refl _
  | n + 1, l, h => by
    have e : l = l.take n ++ [l[n]] := by
      have := List.take_append_getElem (l := l) (i := n) (by omega)
      rw [this, List.take_of_length_le (by omega)]
    rw [e, differF_snoc]
    have := differF_len x n (l.take n) (by rw [List.length_take]; omega)
    unfold differStep
    split
    · rw [List.length_append, List.length_singleton]; omega
    · omega
set_option maxRecDepth 100000 in
set_option maxHeartbeats 4000000 in
theorem content_others (P : Nat → Prop) (x : List ByteArray) (Ax : Option Addr) (cx : Nat) (A : Option Addr) (c : Nat) (l : List (List ByteArray)) (w : World) (hx : Kd.C Kd.string w Ax x.length x) (lx : x.length ≤ cx) (hF : Kd.F KSs w P A l.length l) (hc : l.length ≤ c) (hn : l.length ≤ 1000000) (hm : ∀ y ∈ l, y.length ≤ 1000000000000) :
    Calls Tryz.prog 113 #[.slice Ax x.length cx, .slice A l.length c, .func (.func 114) #[] #[]] w fun e w' => ∃ v, e = .returned v ∧ Aside0 (Kd.N KSs 22 w' w.heap.size (fun k => P k ∨ w.heap.size ≤ k) v (differF x l)) ∧ Aside0 (Below w.heap.size w w') := by
  have HX := Aside0.mk hx
  have HF := Aside0.mk hF
  have HM := Aside0.mk hm
  have hmf : ∀ (fn : Fn) (first cap : Array Value) (w : World), (Instr.makeFunc fn first cap).run Tryz.prog w = .ok (.func fn first cap) w := fun _ _ _ _ => rfl
  clear hx hF hm
  go_enter Tryz.func113, Tryz.ntmps113
  go_wp2_with fail
  obtain ⟨w1, hw1⟩ : ∃ w1, w.alloc (.cells #[.func (.func 114) #[] #[]] 54) = w1 := ⟨_, rfl⟩
  have H5 : Aside0 (w1.heap[w.heap.size]? = some (.cells #[.func (.func 114) #[] #[]] 54 (0, 0))) := ⟨by rw [← hw1]; exact blk_new _ _⟩
  have HB1 : Aside0 (Below w.heap.size w w1) := ⟨by rw [← hw1]; exact newBelow _ _⟩
  rw [hw1]
  clear hw1
  go_loopw [7, 13] (fun v iv wr => ∃ (k : Nat) (Ao : Option Addr) (co : Nat), v = .slice Ao (differF x (l.take k)).length co ∧ iv = .int .i64 k ∧ k ≤ l.length ∧ Aside0 (Kd.N KSs 22 wr w.heap.size (fun k => P k ∨ w.heap.size ≤ k) (.slice Ao (differF x (l.take k)).length co) (differF x (l.take k))) ∧ Aside0 (wr.heap[w.heap.size]? = some (.cells #[.func (.func 114) #[] #[]] 54 (0, 0))) ∧ Aside0 (Below w.heap.size w wr)) (fun _ iv _ => l.length - (intOf iv).toNat)
  case atStart => exact ⟨0, _, _, rfl, rfl, Nat.zero_le _, ⟨Kd.N_nil _ _ _ _ _⟩, H5, HB1⟩
  case round =>
    obtain ⟨k, Ao, co, rfl, rfl, hk, HO, H5r, HBr⟩ := hrel
    by_cases hlt : k < l.length
    · obtain ⟨ad, cs, rfl, hcl, hFK, hcell, _⟩ := Kd.F_get (Kd.F_old HF.out HBr.out) [] (k : Int) (by omega) (by omega)
      have hy : l.getD (k : Int).toNat [] = l[k] := by simp [hlt]
      have hmy := HM.out _ (List.getElem_mem hlt)
      have htk : differF x (l.take (k + 1)) = differStep x (differF x (l.take k)) l[k] := by rw [← List.take_append_getElem hlt, differF_snoc]
      obtain ⟨y, hye⟩ : ∃ y, l[k] = y := ⟨_, rfl⟩
      rw [hy, hye] at hFK
      rw [hye] at hmy htk
      obtain ⟨Ay, cy, rfl, ly, hFy⟩ := Kd.FK_slice_open hFK
      have xy := hcell 0 _ rfl
      have kk : (k : Int).toNat = k := by omega
      rw [kk] at xy
      replace xy : wr.cell? (ad.add k) = some (.slice Ay y.length cy) := by
        have e : k * KSs.sz + 0 = k := by show k * 1 + 0 = k; omega
        rw [e] at xy; exact xy
      obtain ⟨out, hout⟩ : ∃ out, differF x (l.take k) = out := ⟨_, rfl⟩
      have houl : out.length ≤ 1000000 := by rw [← hout]; have := differF_len x k (l.take k) (by rw [List.length_take]; omega); omega
      rw [hout] at HO htk ⊢
      have HTK := Aside0.mk htk
      have HFY := Aside0.mk hFy
      have HOUL := Aside0.mk houl
      have HBw : Aside0 (w.heap.size ≤ wr.heap.size) := ⟨HBr.out.size⟩
      obtain ⟨hon, hoc, hOC⟩ := Kd.N_reads' HO.out
      have HOC := Aside0.mk hOC
      clear kk hy hye htk hFK hcell hFy hout hOC
      obtain ⟨q, hq⟩ : ∃ q, decide (y = x) = q := ⟨_, rfl⟩
      have HQ := Aside0.mk hq
      clear hq
      go_wp2_with fail
      obtain ⟨w2, hw2⟩ : ∃ w2, wr.alloc (.cells #[.slice Ay y.length cy] 22) = w2 := ⟨_, rfl⟩
      have g9 : w2.heap[wr.heap.size]? = some (.cells #[.slice Ay y.length cy] 22 (0, 0)) := by rw [← hw2]; exact blk_new _ _
      have hb2 : Below wr.heap.size wr w2 := by rw [← hw2]; exact newBelow _ _
      rw [hw2]
      refine (others_1 w.heap.size wr.heap.size y x Ay cy Ax cx w2 (cell_blk (farKeep H5r.out hb2) rfl) (cell_blk g9 rfl) (Kd.C_below (Kd.F_now HFY.out) hb2) ly (Kd.C_below HX.out (far_ HBr.out hb2)) lx hmy).mono ?_
      rintro e w3' ⟨rfl, n3, hn3⟩
      obtain ⟨w3, hw3⟩ : ∃ w3, w3 = w3' := ⟨_, rfl⟩
      rw [← hw3]
      rw [← hw3] at hn3
      have HB3 : Aside0 (Below wr.heap.size wr w3) := ⟨by rw [hn3]; exact pw_below_drewN hb2 n3⟩
      have G9 : Aside0 (w3.heap[wr.heap.size]? = some (.cells #[.slice Ay y.length cy] 22 (0, 0))) := ⟨by rw [hn3]; simpa using g9⟩
      clear hw3 hw2 hb2 g9 hn3 xy
      rw [HQ.out]
      have HW3 : Aside0 (Below w.heap.size w w3) := ⟨far_ HBr.out HB3.out⟩
      cases q with
      | true =>
        have HT : Aside0 (differF x (l.take (k + 1)) = out) := ⟨by rw [HTK.out, differStep, if_neg (fun h => by rw [HQ.out] at h; cases h.1)]⟩
        go_wp2
        go_roundw
        case measure => simp [intOf]; omega
        case rel => exact ⟨k + 1, _, _, by rw [HT.out], by go_num, by omega, ⟨by rw [HT.out]; exact Kd.N_below HO.out HB3.out⟩, ⟨farKeep H5r.out HB3.out⟩, HW3⟩
      | false =>
        obtain ⟨q2, hq2⟩ : ∃ q2, out.any (fun z => decide (y = z)) = q2 := ⟨_, rfl⟩
        have HQ2 := Aside0.mk hq2
        clear hq2
        go_wp2_with fail
        refine (contains_is w.heap.size wr.heap.size y Ay cy Ao co out w3 (cell_blk (farKeep H5r.out HB3.out) rfl) (cell_blk G9.out rfl) (Kd.C_below (Kd.F_now HFY.out) HB3.out) ly hmy (Kd.C_below HOC.out HB3.out) hoc HOUL.out).mono ?_
        rintro e w4' ⟨rfl, n4, hn4⟩
        obtain ⟨w4, hw4⟩ : ∃ w4, w4 = w4' := ⟨_, rfl⟩
        rw [← hw4]
        rw [← hw4] at hn4
        have HB4 : Aside0 (Below wr.heap.size wr w4) := ⟨by rw [hn4]; exact pw_below_drewN HB3.out n4⟩
        have z9 : w4.cell? ⟨wr.heap.size, 0, none⟩ = some (.slice Ay y.length cy) := by rw [hn4]; simpa using cell_blk G9.out rfl
        clear hw4 hn4
        rw [HQ2.out]
        have HW4 : Aside0 (Below w.heap.size w w4) := ⟨far_ HBr.out HB4.out⟩
        have HO4 := Aside0.mk (Kd.N_below HO.out HB4.out)
        cases q2 with
        | true =>
          have HT : Aside0 (differF x (l.take (k + 1)) = out) := ⟨by rw [HTK.out, differStep, if_neg (fun h => by rw [HQ2.out] at h; cases h.2)]⟩
          go_wp2
          go_roundw
          case measure => simp [intOf]; omega
          case rel => exact ⟨k + 1, _, _, by rw [HT.out], by go_num, by omega, ⟨by rw [HT.out]; exact HO4.out⟩, ⟨farKeep H5r.out HB4.out⟩, HW4⟩
        | false =>
          have HT : Aside0 (differF x (l.take (k + 1)) = out ++ [y]) := ⟨by rw [HTK.out, differStep, if_pos ⟨HQ.out, HQ2.out⟩]⟩
          have HFK : Aside0 (Kd.FK KSs w4 (fun k => P k ∧ k < w.heap.size) y [.slice Ay y.length cy]) := ⟨Kd.FK_slice_mk ly (Kd.F_below HFY.out HB4.out)⟩
          go_wp2_with (first | (at_builtin; refine Kd.N_append KSs (w0 := w) w.heap.size rfl (.tmp 28) (.tmp 30) 23 22 (.slice none 0 0) 24 rfl Tryz.underlying23 info22 rfl Nat.zero_lt_one (by decide) (.slice Ao out.length co) out y [.slice Ay y.length cy] (fun k => P k ∨ w.heap.size ≤ k) (fun k => P k ∧ k < w.heap.size) rfl rfl HFK.out (fun k hk => ⟨.inl hk.1, fun e => by have := Kd.N_base HO4.out k e.symm; have := hk.2; omega⟩) (fun k hk => .inr (Nat.le_trans (Nat.le_trans HBw.out HB4.out.size) hk)) HO4.out (far_ HBr.out HB4.out) (Nat.le_trans HBw.out HB4.out.size) (by have := HOUL.out; omega) ?_; intro v5 w5 ho5 hb5 hg5 hat5; obtain ⟨A5, c5, hv5⟩ := Kd.N_slice ho5; subst hv5; have HO5 := Aside0.mk ho5; have HB5 := Aside0.mk hb5; have HG5 := Aside0.mk hg5; clear ho5 hb5 hg5 hat5))
          go_roundw
          case measure => simp [intOf]; omega
          case rel =>
            have h54 := farKeep H5r.out HB4.out
            refine ⟨k + 1, A5, c5, by rw [HT.out, List.length_append, List.length_singleton], by go_num, by omega, ⟨by rw [HT.out]; exact HO5.out⟩, ⟨(HG5.out.block w.heap.size (blk_lt h54) (Kd.N_ne HO4.out h54 (by decide))).trans h54⟩, HB5⟩
    · have hk' : k = l.length := by omega
      subst hk'
      rw [List.take_length] at HO ⊢
      go_wp2
      go_ret
      exact ⟨_, rfl, HO, HBr⟩
set_option maxHeartbeats 2000000 in
theorem content_Differing (P : Nat → Prop) (x : List ByteArray) (Ax : Option Addr) (cx : Nat) (A : Option Addr) (c : Nat) (l : List (List ByteArray)) (w : World) (hx : Kd.C Kd.string w Ax x.length x) (lx : x.length ≤ cx) (hF : Kd.F KSs w P A l.length l) (hc : l.length ≤ c) (hn : l.length ≤ 1000000) (hm : ∀ y ∈ l, y.length ≤ 1000000000000) :
    Calls Tryz.prog 102 #[.slice Ax x.length cx, .slice A l.length c] w fun e w' => ∃ v, e = .returned v ∧ Aside0 (Kd.N KSs 22 w' w.heap.size (fun k => P k ∨ w.heap.size ≤ k) v (differF x l)) ∧ Aside0 (Below w.heap.size w w') := by
  have HX := Aside0.mk hx
  have HF := Aside0.mk hF
  have HM := Aside0.mk hm
  clear hx hF hm
  go_enter Tryz.func102, Tryz.ntmps102
  go_wp2_with fail
  refine (content_others P x Ax cx A c l _ HX.out lx HF.out hc hn HM.out).mono ?_
  rintro e w1 ⟨v, rfl, HN, HB⟩
  go_wp2
  go_ret
  exact ⟨_, rfl, HN, HB⟩
end Go.Proofs.YtbbhdbeaikclcaaGreat.X
-- part XPick1
namespace Go.Proofs.YtbbhdbeaikclcaaGreat.X
open Go.RowKit Go.Proofs.YtbbhdbeaikclcaaGreatW.PrintWords Go.Proofs.YtbbhdbeaikclcaaGreatW.PrintLast Go.Proofs.YtbbhdbeaikclcaaGreatW.PrintMore
set_option linter.unusedVariables false
set_option linter.unusedSimpArgs false
abbrev Piece := S66
theorem clean_1 (b : Bool) (A1 : Option Addr) (n1 c1 : Nat) (A2 : Option Addr) (n2 c2 : Nat) (A3 : Option Addr) (n3 c3 : Nat) (w : World) :
    Calls Tryz.prog 51 #[.agg #[.bool b, .slice A1 n1 c1, .slice A2 n2 c2, .slice A3 n3 c3]] w fun e w' => e = .returned (.bool b) ∧ Aside0 (Below w.heap.size w w') := by
  have HB : Aside0 (∀ o, Below w.heap.size w (w.alloc o)) := ⟨fun o => newBelow w o⟩
  go_enter Tryz.func51, Tryz.ntmps51
  go_wp2
  go_ret
  exact ⟨rfl, ⟨HB.out _⟩⟩
/-- The first piece that is so; -1: none. -/
def firstP (p : Piece → Bool) (l : List Piece) : Int := match l.findIdx? p with | some i => (i : Int) | none => -1
theorem firstP_go {p : Piece → Bool} {l : List Piece} {k : Nat} (hk : k < l.length) (h : ∀ x ∈ l.take k, p x = false) (hp : p l[k] = true) : firstP p l = (k : Int) := by
  have : l.findIdx? p = some k := by
    rw [List.findIdx?_eq_some_iff_getElem]
    exact ⟨hk, hp, fun j hj => by
      have : l[j] ∈ l.take k := by
        rw [List.mem_take_iff_getElem]; exact ⟨j, by omega, rfl⟩
      rw [h _ this]; decide⟩
  rw [firstP, this]
theorem firstP_none {p : Piece → Bool} {l : List Piece} (h : ∀ x ∈ l, p x = false) : firstP p l = -1 := by
  have : l.findIdx? p = none := List.findIdx?_eq_none_iff.2 (fun x hx => by rw [h x hx])
  rw [firstP, this]
theorem firstP_any (p : Piece → Bool) (l : List Piece) : l.any p = decide (0 ≤ firstP p l) := by
  rw [firstP]
  cases h : l.findIdx? p with
  | none =>
    have := List.findIdx?_eq_none_iff.1 h
    show _ = false
    rw [List.any_eq_false]
    exact fun x hx => by rw [this x hx]; decide
  | some i =>
    obtain ⟨hi, h1, _⟩ := List.findIdx?_eq_some_iff_getElem.1 h
    have : decide ((0 : Int) ≤ (i : Int)) = true := decide_eq_true (by omega)
    show _ = decide ((0 : Int) ≤ (i : Int))
    rw [this, List.any_eq_true]
    exact ⟨_, List.getElem_mem hi, h1⟩
set_option maxRecDepth 100000 in
set_option maxHeartbeats 2000000 in
theorem index_clean (A : Option Addr) (c : Nat) (l : List Piece) (w : World) (hC : Kd.C k66 w A l.length l) (hc : l.length ≤ c) (hl : l.length ≤ 1000000000) :
    Calls Tryz.prog 92 #[.slice A l.length c, .func (.func 51) #[] #[]] w fun e w' => e = .returned (.int .i64 (firstP (fun p => p.f0) l)) ∧ Aside0 (Below w.heap.size w w') := by
  have HC := Aside0.mk hC
  clear hC
  obtain ⟨R, hR⟩ : ∃ R, firstP (fun p => p.f0) l = R := ⟨_, rfl⟩
  have HR := Aside0.mk hR
  rw [hR]
  clear hR
  go_enter Tryz.func92, Tryz.ntmps92
  go_wp2_with fail
  go_loopw [8, 5] (fun i _ wr => ∃ (k : Nat), k ≤ l.length ∧ i = .int .i64 k ∧ Aside0 (∀ x ∈ l.take k, x.f0 = false) ∧ Aside0 (Below w.heap.size w wr)) (fun i _ _ => l.length - (intOf i).toNat)
  case atStart => exact ⟨0, Nat.zero_le _, rfl, ⟨by simp⟩, ⟨Below.refl _ _⟩⟩
  case round =>
    obtain ⟨k, hk, rfl, HF, HB⟩ := hrel
    by_cases hlt : k < l.length
    · obtain ⟨ad, A1, c1, A2, c2, A3, c3, rfl, x0, x1, x2, x3, _, _, _, _, _, _⟩ := at_T66 HC.out (k : Int) (by omega) (by omega)
      have hx : rd_T66 l (k : Int) = l[k] := getN hlt
      obtain ⟨x, hxe⟩ : ∃ x, l[k] = x := ⟨_, rfl⟩
      have HX := Aside0.mk hxe
      rw [hx, hxe] at x0 x1 x2 x3
      replace x0 := (HB.out.cell (World.block_lt_of_cell? w _ x0)).trans x0
      replace x1 := (HB.out.cell (World.block_lt_of_cell? w _ x1)).trans x1
      replace x2 := (HB.out.cell (World.block_lt_of_cell? w _ x2)).trans x2
      replace x3 := (HB.out.cell (World.block_lt_of_cell? w _ x3)).trans x3
      have kk : (k : Int).toNat = k := by omega
      rw [kk] at x0 x1 x2 x3
      clear kk hx hxe
      obtain ⟨b, hb⟩ : ∃ b, x.f0 = b := ⟨_, rfl⟩
      have HBB := Aside0.mk hb
      rw [hb] at x0
      clear hb
      go_wp2_with fail
      refine (clean_1 b A1 _ c1 A2 _ c2 A3 _ c3 _).mono ?_
      rintro e w1 ⟨rfl, hb1⟩
      have HB1 : Aside0 (Below w.heap.size w w1) := ⟨far_ HB.out hb1.out⟩
      clear hb1
      cases b with
      | false =>
        go_wp2
        go_roundw
        case measure => simp [intOf]; omega
        case rel => exact ⟨k + 1, by omega, by go_num, ⟨fun y hy => by
          rw [← List.take_append_getElem hlt] at hy
          rcases List.mem_append.1 hy with hy | hy
          · exact HF.out y hy
          · rw [List.mem_singleton.1 hy, HX.out]; exact HBB.out⟩, HB1⟩
      | true =>
        have HFK : Aside0 (R = (k : Int)) := ⟨HR.out.symm.trans (firstP_go hlt HF.out (by rw [HX.out]; exact HBB.out))⟩
        go_wp2
        go_ret
        exact ⟨by rw [HFK.out]; rfl, HB1⟩
    · have hk' : k = l.length := by omega
      subst hk'
      rw [List.take_length] at HF
      have HFN : Aside0 (R = -1) := ⟨HR.out.symm.trans (firstP_none HF.out)⟩
      go_wp2
      go_ret
      exact ⟨by rw [HFN.out]; rfl, HB⟩
def cleanB (l : List Piece) : Bool := !l.any (fun p => p.f0)
set_option maxHeartbeats 2000000 in
theorem contains_clean (A : Option Addr) (c : Nat) (l : List Piece) (w : World) (hC : Kd.C k66 w A l.length l) (hc : l.length ≤ c) (hl : l.length ≤ 1000000000) :
    Calls Tryz.prog 50 #[.slice A l.length c, .func (.func 51) #[] #[]] w fun e w' => e = .returned (.bool (l.any (fun p => p.f0))) ∧ Aside0 (Below w.heap.size w w') := by
  obtain ⟨q, hq⟩ : ∃ q, firstP (fun p => p.f0) l = q := ⟨_, rfl⟩
  have hany := firstP_any (fun p => p.f0) l
  rw [hq] at hany
  have HANY := Aside0.mk hany
  have HQ := Aside0.mk hq
  have HC := Aside0.mk hC
  clear hany hq hC
  go_enter Tryz.func50, Tryz.ntmps50
  go_wp2_with fail
  refine (index_clean A c l _ HC.out hc hl).mono ?_
  rintro e w1 ⟨rfl, HB⟩
  rw [HQ.out]
  go_wp2
  go_ret
  exact ⟨by rw [HANY.out]; rfl, HB⟩
theorem pick_Clean (A : Option Addr) (c : Nat) (l : List Piece) (w : World) (hC : Kd.C k66 w A l.length l) (hc : l.length ≤ c) (hl : l.length ≤ 1000000000) :
    Calls Tryz.prog 24 #[.slice A l.length c] w fun e w' => e = .returned (.bool (cleanB l)) ∧ Below w.heap.size w w' := by
  obtain ⟨q, hq⟩ : ∃ q, l.any (fun p => p.f0) = q := ⟨_, rfl⟩
  have HQ := Aside0.mk hq
  have HC := Aside0.mk hC
  clear hq hC
  go_enter Tryz.func24, Tryz.ntmps24
  go_wp2_with fail
  refine (contains_clean A c l _ HC.out hc hl).mono ?_
  rintro e w1 ⟨rfl, HB⟩
  rw [HQ.out]
  go_wp2
  go_ret
  exact ⟨by rw [cleanB, HQ.out]; rfl, HB.out⟩
def chosen (side : Int) (p : Piece) : List ByteArray := if p.f0 = false then p.f1 else if 1 ≤ side ∧ side ≤ (p.f3.length : Int) then p.f3.getD (side - 1).toNat [] else []
def chooseF (l : List Piece) (side : Int) : List ByteArray := (l.map (chosen side)).flatten
/-- What Choose holds: the texts so far, the side. -/
def ChIn (w0 W : World) (B gb gs : Nat) (side : Int) (out : List ByteArray) : Prop :=
  ∃ vo, W.heap[gb]? = some (.cells #[vo] 22 (0, 0)) ∧ B ≤ gb ∧ W.heap[gs]? = some (.cells #[.int .i64 side] 3 (0, 0)) ∧ Kd.R Kd.string 9 W B (fun _ => True) vo out ∧ Below B w0 W
theorem ChIn.below {w0 W W' : World} {B gb gs : Nat} {side : Int} {out : List ByteArray} (h : ChIn w0 W B gb gs side out) (hb : Below W.heap.size W W') (hB : B ≤ W.heap.size) : ChIn w0 W' B gb gs side out := by
  obtain ⟨vo, q1, q2, q3, q4, q5⟩ := h
  exact ⟨vo, farKeep q1 hb, q2, farKeep q3 hb, Kd.R_below q4 hb, q5.trans (hb.mono hB)⟩
theorem ChIn.bel {w0 W : World} {B gb gs : Nat} {side : Int} {out : List ByteArray} (h : ChIn w0 W B gb gs side out) : Below B w0 W := by
  obtain ⟨vo, q1, q2, q3, q4, q5⟩ := h; exact q5
set_option maxRecDepth 100000 in
set_option maxHeartbeats 4000000 in
theorem choose_1 (w0 w : World) (B gb gs : Nat) (side : Int) (out : List ByteArray) (b : Bool) (s1 s2 : List ByteArray) (s3 : List (List ByteArray)) (A1 : Option Addr) (c1 : Nat) (A2 : Option Addr) (c2 : Nat) (A3 : Option Addr) (c3 : Nat) (hB : B = w0.heap.size) (h : ChIn w0 w B gb gs side out)
    (l1 : s1.length ≤ c1) (C1 : Kd.C Kd.string w A1 s1.length s1) (l3 : s3.length ≤ c3) (C3 : Kd.C (Kd.slice 9 Kd.string) w A3 s3.length s3) (hs : side ≤ 1000000000) (hs0 : -1000000000 ≤ side) (hl : out.length + (chosen side ⟨b, s1, s2, s3⟩).length ≤ 1000000000) :
    Calls Tryz.prog 53 #[.agg #[.bool b, .slice A1 s1.length c1, .slice A2 s2.length c2, .slice A3 s3.length c3], .pointer (some ⟨gb, 0, none⟩), .pointer (some ⟨gs, 0, none⟩)] w fun e w' => e = .returned (.tuple #[]) ∧ Aside0 (ChIn w0 w' B gb gs side (out ++ chosen side ⟨b, s1, s2, s3⟩)) := by
  have H := Aside0.mk h
  obtain ⟨vo, q1, q2, q3, q4, q5⟩ := h
  obtain ⟨Ao, co, rfl⟩ := Kd.R_slice q4
  have HBW : Aside0 (B ≤ w.heap.size) := ⟨by rw [hB]; exact (by rw [hB] at q5; exact q5.size)⟩
  have Q1 := Aside0.mk q1
  have Q3 := Aside0.mk q3
  have Q4 := Aside0.mk q4
  have Q5 := Aside0.mk q5
  have HC1 := Aside0.mk C1
  have HC3 := Aside0.mk C3
  have yb : ∀ o, (w.alloc o).cell? ⟨gb, 0, none⟩ = some (.slice Ao out.length co) := fun o => cell_alloc_of (cell_blk q1 rfl) o
  have ys : ∀ o, (w.alloc o).cell? ⟨gs, 0, none⟩ = some (.int .i64 side) := fun o => cell_alloc_of (cell_blk q3 rfl) o
  clear q1 q3 q4 q5 C1 C3 hB
  cases b with
  | false =>
    have hch : chosen side ⟨false, s1, s2, s3⟩ = s1 := rfl
    rw [hch] at hl ⊢
    have HL := Aside0.mk hl
    clear hch hl
    go_enter Tryz.func53, Tryz.ntmps53
    go_wp2_with (first | (at_builtin; refine Kd.R_append_rows Kd.string (Rr := Kd.string.K (w.alloc (.cells #[.bool false, .slice A1 s1.length c1, .slice A2 s2.length c2, .slice A3 s3.length c3] 66))) (w0 := w0) B rfl (.tmp 8) (.tmp 10) 22 9 (.string ⟨#[]⟩) 16 rfl Tryz.underlying22 info9 rfl (by decide) (by decide) (.slice Ao out.length co) out s1 A1 s1.length c1 (fun _ => True) (fun _ => False) rfl rfl (Kd.R_alloc Q4.out _) (Kd.C_alloc HC1.out _) (fun _ _ h => h) (fun _ h => h.elim) (fun _ _ => trivial) (Q5.out.alloc HBW.out _) (by have := HBW.out; simp; omega) (by have := HL.out; omega) ?_; intro v2 w2 ho2 hb2 hg2 hat2; obtain ⟨A2', c2', hv2⟩ := Kd.R_slice ho2; subst hv2; have g2 := (hg2.block gb (by have := blk_lt Q1.out; simp; omega) (Kd.R_ne Q4.out Q1.out (by decide))).trans (newKeep Q1.out _); have z2 : w2.cell? ⟨gb, 0, none⟩ = some (.slice Ao out.length co) := cell_blk g2 rfl; have f2 : w2.frozen? ⟨gb, 0, none⟩ = false := frozen_of_row _ _ _ _ _ g2; have HO2 := Aside0.mk ho2; have HB2 := Aside0.mk hb2; have HG2 := Aside0.mk hg2; have G2 := Aside0.mk g2; clear ho2 hb2 hg2 hat2 g2 yb))
    go_end0
    have gs2 := (HG2.out.block gs (by have := blk_lt Q3.out; simp; omega) (Kd.R_ne Q4.out Q3.out (by decide))).trans (newKeep Q3.out _)
    refine ⟨rfl, ⟨⟨.slice A2' (out ++ s1).length c2', by rw [heap_set_same G2.out]; simp, q2, setKeep gs2 (blkNe Q3.out Q1.out (by decide)) _, Kd.R_set HO2.out G2.out (by decide) _ _, HB2.out.setCell (p := ⟨gb, 0, none⟩) q2 _⟩⟩⟩
  | true =>
    by_cases h1 : 1 ≤ side
    · have d1 : decide (1 ≤ side) = true := decide_eq_true h1
      by_cases h2 : side ≤ (s3.length : Int)
      · have d2 : decide (side ≤ (s3.length : Int)) = true := decide_eq_true h2
        obtain ⟨j, hj⟩ : ∃ j : Nat, side - 1 = (j : Int) := ⟨(side - 1).toNat, by omega⟩
        have hj3 : j < s3.length := by omega
        obtain ⟨a3, A5, c5, rfl, x5, l5, C5⟩ := at_slice HC3.out j hj3
        have hch : chosen side ⟨true, s1, s2, s3⟩ = s3.getD j [] := by
          rw [chosen, if_neg (by intro h; cases h), if_pos ⟨h1, h2⟩]
          rw [hj]; rfl
        rw [hch] at hl ⊢
        obtain ⟨s, hse⟩ : ∃ s, s3.getD j [] = s := ⟨_, rfl⟩
        rw [hse] at hl x5 l5 C5 ⊢
        have HL := Aside0.mk hl
        have HC5 := Aside0.mk C5
        have y3 : ∀ o, (w.alloc o).cell? (a3.add j) = some (.slice A5 s.length c5) := fun o => cell_alloc_of x5 o
        have e1 : wrap64 (side - 1) = (j : Int) := by rw [gw (by omega) (by omega)]; exact hj
        have e2 : (j : Int) < (s3.length : Int) := by omega
        have e3 : (0 : Int) ≤ (j : Int) := by omega
        clear hch hl hse C5 l5 hj x5
        go_enter Tryz.func53, Tryz.ntmps53
        go_wp2
        obtain ⟨w1, hw1⟩ : ∃ w1, w.alloc (.cells #[.bool true, .slice A1 s1.length c1, .slice A2 s2.length c2, .slice (some a3) s3.length c3] 66) = w1 := ⟨_, rfl⟩
        have g6 : w1.heap[w.heap.size]? = some (.cells #[.bool true, .slice A1 s1.length c1, .slice A2 s2.length c2, .slice (some a3) s3.length c3] 66 (0, 0)) := by rw [← hw1]; exact blk_new _ _
        have z6 : w1.cell? ⟨w.heap.size, 3, none⟩ = some (.slice (some a3) s3.length c3) := cell_blk g6 rfl
        have zb : w1.cell? ⟨gb, 0, none⟩ = some (.slice Ao out.length co) := by rw [← hw1]; exact yb _
        have zs : w1.cell? ⟨gs, 0, none⟩ = some (.int .i64 side) := by rw [← hw1]; exact ys _
        have z3 : w1.cell? (a3.add j) = some (.slice A5 s.length c5) := by rw [← hw1]; exact y3 _
        have HW : Aside0 (Below w.heap.size w w1) := ⟨by rw [← hw1]; exact newBelow _ _⟩
        rw [hw1]
        clear hw1 g6 yb ys y3
        refine start_ (n := 9) (S := fun w' => w'.cell? ⟨gb, 0, none⟩ = some (.slice Ao out.length co) ∧ w'.cell? ⟨w.heap.size, 3, none⟩ = some (.slice (some a3) s3.length c3) ∧ w'.cell? ⟨gs, 0, none⟩ = some (.int .i64 side) ∧ w'.cell? (a3.add j) = some (.slice A5 s.length c5)) (ds := [7, 8]) #[false, false, false, false, false, false, false, false, false] (by kernel_rfl) rfl rfl ⟨zb, z6, zs, z3⟩ (fun hHeld => ?_)
        refine pure_ (i := 1) (N := some 23) (v := ?_) (a' := ?_) #[false, true, false, false, false, false, false, false, false] rfl rfl (by kernel_rfl) (fun _ _ _ h => h) (Or.inl ⟨by rfl, ?_⟩) ?_ ?_
        rotate_left
        · intro w'
          go_simp
          with_reducible rfl
        rotate_left
        · simp only [Act.put, List.setIfInBounds_toArray, List.set_cons_zero, List.set_cons_succ, i64_w, i32_w]
          rfl
        refine take_ (i := 0) (N := some 22) (v := ?_) (a' := ?_) #[true, true, false, false, false, false, false, false, false] rfl rfl (by kernel_rfl) (fun _ _ _ h => h) (Or.inl ⟨by rfl, ?_⟩) hHeld ?_ ?_
        rotate_left
        · rintro w' ⟨s0, s1, s2, s3⟩
          go_simp
          with_reducible rfl
        rotate_left
        · simp only [Act.put, List.setIfInBounds_toArray, List.set_cons_zero, List.set_cons_succ, i64_w, i32_w]
          rfl
        refine take_ (i := 2) (N := some 24) (v := ?_) (a' := ?_) #[true, true, true, false, false, false, false, false, false] rfl rfl (by kernel_rfl) (fun _ _ _ h => h) (Or.inl ⟨by rfl, ?_⟩) hHeld ?_ ?_
        rotate_left
        · rintro w' ⟨s0, s1, s2, s3⟩
          go_simp
          with_reducible rfl
        rotate_left
        · simp only [Act.put, List.setIfInBounds_toArray, List.set_cons_zero, List.set_cons_succ, i64_w, i32_w]
          rfl
        refine take_ (i := 3) (N := some 25) (v := ?_) (a' := ?_) #[true, true, true, true, false, false, false, false, false] rfl rfl (by kernel_rfl) (fun _ _ _ h => h) (Or.inl ⟨by rfl, ?_⟩) hHeld ?_ ?_
        rotate_left
        · rintro w' ⟨s0, s1, s2, s3⟩
          go_simp
          with_reducible rfl
        rotate_left
        · simp only [Act.put, List.setIfInBounds_toArray, List.set_cons_zero, List.set_cons_succ, i64_w, i32_w]
          rfl
        refine pure_ (i := 4) (N := some 26) (v := ?_) (a' := ?_) #[true, true, true, true, true, false, false, false, false] rfl rfl (by kernel_rfl) (fun _ _ _ h => h) (Or.inl ⟨by rfl, ?_⟩) ?_ ?_
        rotate_left
        · intro w'
          go_simp
          with_reducible rfl
        rotate_left
        · simp only [Act.put, List.setIfInBounds_toArray, List.set_cons_zero, List.set_cons_succ, i64_w, i32_w]
          rfl
        refine pure_ (i := 5) (N := some 27) (v := ?_) (a' := ?_) #[true, true, true, true, true, true, false, false, false] rfl rfl (by kernel_rfl) (fun _ _ _ h => h) (Or.inl ⟨by rfl, ?_⟩) ?_ ?_
        rotate_left
        · intro w'
          go_simp
          with_reducible rfl
        rotate_left
        · simp only [Act.put, List.setIfInBounds_toArray, List.set_cons_zero, List.set_cons_succ, i64_w, i32_w]
          rfl
        refine take_ (i := 6) (N := some 28) (v := ?_) (a' := ?_) #[true, true, true, true, true, true, true, false, false] rfl rfl (by kernel_rfl) (fun _ _ _ h => h) (Or.inl ⟨by rfl, ?_⟩) hHeld ?_ ?_
        rotate_left
        · rintro w' ⟨s0, s1, s2, s3⟩
          go_simp
          with_reducible rfl
        rotate_left
        · simp only [Act.put, List.setIfInBounds_toArray, List.set_cons_zero, List.set_cons_succ, i64_w, i32_w]
          rfl
        refine last_ (i := 7) (N := some 29) #[true, true, true, true, true, true, true, true, false] rfl rfl (by kernel_rfl) (by decide) (fun K hK => ?_)
        refine Kd.R_append_rows_step Kd.string (Rr := Kd.string.K w1.drew) (w0 := w1.drew) B (by rfl) (.tmp 22) (.tmp 28) 22 9 (.string ⟨#[]⟩) 16 rfl Tryz.underlying22 info9 rfl (by decide) (by decide) (.slice Ao out.length co) out s A5 s.length c5 (fun _ => True) (fun _ => False) rfl rfl ?aO ?aR (fun _ _ h => h) (fun _ h => h.elim) (fun _ _ => trivial) (Below.refl _ _) ?aS (by have := HL.out; omega) ?_
        (case aO => exact Kd.R_drew (Kd.R_below Q4.out HW.out))
        (case aR => exact Kd.C_drew (Kd.C_below HC5.out HW.out))
        (case aS => exact Nat.le_trans HBW.out HW.out.size)
        intro v2 w2 ho2 hb2 hg2 hat2
        obtain ⟨A2', c2', hv2⟩ := Kd.R_slice ho2
        subst hv2
        have g2 : w2.heap[gb]? = some (.cells #[.slice Ao out.length co] 22 (0, 0)) := (hg2.block gb (by have := blk_lt Q1.out; have := HW.out.size; show gb < w1.heap.size; omega) (Kd.R_ne Q4.out Q1.out (by decide))).trans (farKeep Q1.out HW.out.drew)
        have z2 : w2.cell? ⟨gb, 0, none⟩ = some (.slice Ao out.length co) := cell_blk g2 rfl
        have f2 : w2.frozen? ⟨gb, 0, none⟩ = false := frozen_of_row _ _ _ _ _ g2
        have HO2 := Aside0.mk ho2
        have HB2 := Aside0.mk hb2
        have HG2 := Aside0.mk hg2
        have G2 := Aside0.mk g2
        clear ho2 hb2 hg2 hat2 g2 zb z6 zs z3
        refine hK.out _ _ ?_
        clear hK K
        refine norm_ (a' := ?_) ?_ ?_
        rotate_left
        · show Act.put _ (some 29) _ = _
          simp only [Act.put, List.setIfInBounds_toArray, List.set_cons_zero, List.set_cons_succ, i64_w, i32_w]
          rfl
        refine last_ (i := 8) (N := none) #[true, true, true, true, true, true, true, true, true] rfl rfl (by kernel_rfl) (by decide) (fun K hK => ?_)
        refine skip_ (w1 := ?_) (by rfl) rfl ?_ ?_
        rotate_left
        · go_simp
          rfl
        refine hK.out _ _ ?_
        clear hK K
        refine done_ (by kernel_rfl) ?_

        go_end0
        have gs2 : w2.heap[gs]? = some (.cells #[.int .i64 side] 3 (0, 0)) := (HG2.out.block gs (by have := blk_lt Q3.out; have := HW.out.size; show gs < w1.heap.size; omega) (Kd.R_ne Q4.out Q3.out (by decide))).trans (farKeep Q3.out HW.out.drew)
        refine ⟨rfl, ⟨⟨.slice A2' (out ++ s).length c2', by rw [heap_set_same G2.out]; simp, q2, setKeep gs2 (blkNe Q3.out Q1.out (by decide)) _, Kd.R_set HO2.out G2.out (by decide) _ _, ((Q5.out.trans (HW.out.mono HBW.out)).drew.trans HB2.out).setCell (p := ⟨gb, 0, none⟩) q2 _⟩⟩⟩
      · have d2 : decide (side ≤ (s3.length : Int)) = false := decide_eq_false h2
        have hch : chosen side ⟨true, s1, s2, s3⟩ = [] := by rw [chosen, if_neg (by intro h; cases h), if_neg (fun h => h2 h.2)]
        rw [hch, List.append_nil]
        clear hch hl
        go_enter Tryz.func53, Tryz.ntmps53
        go_wp2
        go_end0
        exact ⟨rfl, ⟨H.out.below (newBelow _ _) HBW.out⟩⟩
    · have d1 : decide (1 ≤ side) = false := decide_eq_false h1
      have hch : chosen side ⟨true, s1, s2, s3⟩ = [] := by rw [chosen, if_neg (by intro h; cases h), if_neg (fun h => h1 h.1)]
      rw [hch, List.append_nil]
      clear hch hl
      go_enter Tryz.func53, Tryz.ntmps53
      go_wp2
      go_end0
      exact ⟨rfl, ⟨H.out.below (newBelow _ _) HBW.out⟩⟩
set_option maxRecDepth 100000 in
set_option maxHeartbeats 4000000 in
theorem each_choose (A : Option Addr) (c : Nat) (l : List Piece) (w0 w : World) (B gb gs : Nat) (side : Int) (hB : B = w0.heap.size) (hC : Kd.C k66 w0 A l.length l) (hc : l.length ≤ c) (h : ChIn w0 w B gb gs side []) (hl : l.length ≤ 1000000000) (hs : side ≤ 1000000000) (hs0 : -1000000000 ≤ side) (hz : (chooseF l side).length ≤ 1000000000) :
    Calls Tryz.prog 52 #[.slice A l.length c, .func (.func 53) #[] #[.pointer (some ⟨gb, 0, none⟩), .pointer (some ⟨gs, 0, none⟩)]] w fun e w' => e = .returned (.tuple #[]) ∧ Aside0 (ChIn w0 w' B gb gs side (chooseF l side)) := by
  have HC := Aside0.mk hC
  have H := Aside0.mk h
  have HZ := Aside0.mk hz
  have HBB := Aside0.mk hB
  clear hC h hz hB
  go_enter Tryz.func52, Tryz.ntmps52
  go_wp2_with fail
  go_loopw [8] (fun i wr => ∃ (k : Nat), k ≤ l.length ∧ i = .int .i64 k ∧ Aside0 (ChIn w0 wr B gb gs side (chooseF (l.take k) side))) (fun i _ => l.length - (intOf i).toNat)
  case atStart => exact ⟨0, Nat.zero_le _, rfl, H⟩
  case round =>
    obtain ⟨k, hk, rfl, HI⟩ := hrel
    have HBr : Aside0 (Below w0.heap.size w0 wr) := ⟨by rw [← HBB.out]; exact HI.out.bel⟩
    by_cases hlt : k < l.length
    · obtain ⟨ad, A1, c1, A2, c2, A3, c3, rfl, x0, x1, x2, x3, l1, C1, l2, C2, l3, C3⟩ := at_T66 HC.out (k : Int) (by omega) (by omega)
      have hx : rd_T66 l (k : Int) = l[k] := getN hlt
      have htk : chooseF (l.take (k + 1)) side = chooseF (l.take k) side ++ chosen side l[k] := by
        rw [chooseF, chooseF, ← List.take_append_getElem hlt, List.map_append, List.flatten_append]; simp
      have hle : (chooseF (l.take (k + 1)) side).length ≤ 1000000000 := by
        have e : chooseF l side = chooseF (l.take (k + 1)) side ++ chooseF (l.drop (k + 1)) side := by
          rw [chooseF, chooseF, chooseF, ← List.flatten_append, ← List.map_append, List.take_append_drop]
        have := HZ.out
        rw [e, List.length_append] at this
        omega
      obtain ⟨x, hxe⟩ : ∃ x, l[k] = x := ⟨_, rfl⟩
      rw [hxe] at htk
      rw [hx, hxe] at x0 x1 x2 x3 l1 C1 l2 C2 l3 C3
      obtain ⟨b, s1, s2, s3⟩ := x
      dsimp only at x0 x1 x2 x3 l1 C1 l2 C2 l3 C3
      replace x0 := (HBr.out.cell (World.block_lt_of_cell? w0 _ x0)).trans x0
      replace x1 := (HBr.out.cell (World.block_lt_of_cell? w0 _ x1)).trans x1
      replace x2 := (HBr.out.cell (World.block_lt_of_cell? w0 _ x2)).trans x2
      replace x3 := (HBr.out.cell (World.block_lt_of_cell? w0 _ x3)).trans x3
      have kk : (k : Int).toNat = k := by omega
      rw [kk] at x0 x1 x2 x3
      rw [htk, List.length_append] at hle
      have HTK := Aside0.mk htk
      have HLE := Aside0.mk hle
      have HC1 := Aside0.mk (Kd.C_below C1 HBr.out)
      have HC3 := Aside0.mk (Kd.C_below C3 HBr.out)
      have HBw : Aside0 (B ≤ wr.heap.size) := ⟨by rw [HBB.out]; exact HBr.out.size⟩
      clear kk hx hxe htk hle C1 C2 C3
      go_wp2_with fail
      refine (choose_1 w0 _ B gb gs side _ b s1 s2 s3 A1 c1 A2 c2 A3 c3 HBB.out (HI.out.below (newBelow _ _) HBw.out) l1 (Kd.C_alloc HC1.out _) l3 (Kd.C_alloc HC3.out _) hs hs0 HLE.out).mono ?_
      rintro e w1 ⟨rfl, HI1⟩
      go_wp2
      go_roundw
      case measure => simp [intOf]; omega
      case rel => exact ⟨k + 1, by omega, by go_num, by rw [HTK.out]; exact HI1⟩
    · have hk' : k = l.length := by omega
      subst hk'
      rw [List.take_length] at HI
      go_wp2
      go_end0
      exact ⟨rfl, HI⟩
set_option maxRecDepth 100000 in
set_option maxHeartbeats 2000000 in
theorem pick_Choose (A : Option Addr) (c : Nat) (l : List Piece) (side : Int) (w : World) (hC : Kd.C k66 w A l.length l) (hc : l.length ≤ c) (hl : l.length ≤ 1000000000) (hs : side ≤ 1000000000) (hs0 : -1000000000 ≤ side) (hz : (chooseF l side).length ≤ 1000000000) :
    Calls Tryz.prog 27 #[.slice A l.length c, .int .i64 side] w fun e w' => ∃ v0_ : Value, e = .returned v0_ ∧ Kd.R Kd.string 9 w' w.heap.size (fun _ => True) v0_ (chooseF l side) ∧ Below w.heap.size w w' := by
  have HC := Aside0.mk hC
  have HZ := Aside0.mk hz
  clear hC hz
  have hmf : ∀ (fn : Fn) (first cap : Array Value) (w : World), (Instr.makeFunc fn first cap).run Tryz.prog w = .ok (.func fn first cap) w := fun _ _ _ _ => rfl
  go_enter Tryz.func27, Tryz.ntmps27
  go_wp2_with fail
  obtain ⟨w2, hw2⟩ : ∃ w2, (w.alloc (.cells #[.int .i64 side] 3)).alloc (.cells #[.slice none 0 0] 22) = w2 := ⟨_, rfl⟩
  have hI : ChIn w w2 w.heap.size (w.heap.size + 1) w.heap.size side [] := by
    refine ⟨.slice none 0 0, ?_, by omega, ?_, Kd.R_nil _ _ _ _ _, ?_⟩
    · rw [← hw2]
      have := blk_new (w.alloc (.cells #[.int .i64 side] 3)) (.cells #[.slice none 0 0] 22)
      simpa using this
    · rw [← hw2]; exact newKeep (blk_new _ _) _
    · rw [← hw2]; exact (newBelow _ _).alloc (by simp) _
  rw [hw2]
  refine (each_choose A c l w w2 w.heap.size _ _ side rfl HC.out hc hI hl hs hs0 HZ.out).mono ?_
  clear hw2 hI
  rintro e w3 ⟨rfl, HI⟩
  obtain ⟨vo, q1, q2, q3, q4, q5⟩ := HI.out
  have c1 : w3.cell? ⟨w.heap.size + 1, 0, none⟩ = some vo := cell_blk q1 rfl
  have Q4 := Aside0.mk q4
  have Q5 := Aside0.mk q5
  clear q1 q2 q3 q4 q5
  go_wp2
  go_ret
  exact ⟨_, rfl, Q4.out, Q5.out⟩
end Go.Proofs.YtbbhdbeaikclcaaGreat.X
