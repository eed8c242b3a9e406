/-
  Parts of one proof, one behind the other: X0, XPre, XRn4, XRn5, XRn6, XKit, XHeld, XInternMath, XLcsMath, XBuild, XGives, XConcat, XRef02, XLcs1, XLcs2, XGap1, XGap2, XGapMath, XPairMath, XGapLaw, XOpen, XIntern1, XIntern2, XMaker, XShelf.
-/
import Derived.Test.YtnlekganlliikaaBTableMarks3
import Derived.Test.YtnlekganlliikaaProg
import Derived.Below
import Derived.Deep.Draws
import Derived.Deep.AppendLies
import Derived.Maps.AppendAt
import Derived.OwnWalk
import Derived.Laws.BytesArg
import Derived.Laws.MakeOwn
import Derived.Laws.OwnMore
import Derived.Deep.OwnRows
import Derived.Tactics
import Derived.Lib.ConvBytes
import Derived.Laws.Slices
import Derived.WalkKit
import Derived.KernelRfl
import Derived.RowKit3
import Derived.Deep.LoopGhost
import Derived.Deep.QuietTactic
import Derived.BigQuiet
import Derived.WideLaws
import Derived.Deep.DeepCutAuto
import Derived.Deep.CutBlock
import Derived.Deep.RegionHeld3
import Derived.Laws.Rows
import Derived.Lib.AppendStr
import Derived.ArgAppend
import Derived.Laws.IdiomCopy
import Derived.OrdersHeld
import Derived.Laws.BitsLemmas
import Derived.RowKit
import Derived.Shelf.Strings.Builder1
import Derived.IntWalk
import Derived.Lib.Strings
import Derived.Lib.SliceRun
import Derived.Lib.Hide
import Derived.Outline
import Derived.Shelf.SlicesQ.Load
import Derived.Deep.WholeRow
import Derived.Deep.MidRow
import Derived.Deep.Slices
import Derived.OpenShut
import Derived.ProofKit
import Derived.SizedLaws
import Derived.Lib.SmallJoins
import Derived.Maps.Own
import Derived.Maps.OwnSet
import Derived.Maps.OwnOps
import Derived.RangeFuncRecord
import Derived.Laws.LoneSync
import Derived.WalkSpells
import Derived.Lib.LazyBuf
import Derived.Shelf.Strings.BuilderF
import Derived.Shelf.Strings.BuilderK
import Derived.Shelf.Strings.Search1
import Derived.Shelf.Strings.Search2
import Derived.Shelf.Strings.Search3
import Derived.Shelf.LaysM
import Derived.Shelf.Strings.Shaped
import Derived.Shelf.Bits.Mul64
import Derived.Shelf.Strings.BuilderCap
import Derived.Ground.Names2Prog
import Derived.Shelf.Slices.Clone
-- part X0
namespace Go.Proofs.Ytnlekganlliikaa.X
open Go.RowKit Go.Proofs.YtnlekganlliikaaW.PrintWords Go.Proofs.YtnlekganlliikaaW.PrintLast Go.Proofs.YtnlekganlliikaaW.PrintMore
attribute [local go_sem] max2_int min2_int max_two min_two max_three min_three max_four min_four   -- for this text's walks alone
set_option linter.unusedVariables false
set_option linter.unusedSimpArgs false
def errW : Option Int → Value
  | none => .nilIface
  | some c => .iface 0 (.int .i64 c)
theorem errW_none : errW none = .nilIface := rfl
theorem errW_some (c : Int) : errW (some c) = .iface 0 (.int .i64 c) := rfl

theorem info3 : (Try.prog.info? 3).map (fun i => (i.zero, i.size, i.bytes)) = some (some (.int .i64 0), 1, 8) := by kernel_rfl
theorem info5 : (Try.prog.info? 5).map (fun i => (i.zero, i.size, i.bytes)) = some (some (.int .u8 0), 1, 1) := by kernel_rfl
theorem info9 : (Try.prog.info? 9).map (fun i => (i.zero, i.size, i.bytes)) = some (some (.string ⟨#[]⟩), 1, 16) := by kernel_rfl
theorem info34 : (Try.prog.info? 34).map (fun i => (i.zero, i.size, i.bytes)) = some (some (.slice none 0 0), 1, 24) := by kernel_rfl
theorem info37 : (Try.prog.info? 37).map (fun i => (i.zero, i.size, i.bytes)) = some (some (.agg #[(.string ⟨#[]⟩), (.string ⟨#[]⟩)]), 2, 32) := by kernel_rfl
theorem info49 : (Try.prog.info? 49).map (fun i => (i.zero, i.size, i.bytes)) = some (some (.slice none 0 0), 1, 24) := by kernel_rfl
def rd_L1 (xs : List (List ByteArray)) (i : Int) : (List ByteArray) := xs.getD i.toNat ([] : List ByteArray)
theorem at_L1 {w : World} {A : Option Addr} {n : Nat} {xs : List (List ByteArray)} (h : Kd.C (Kd.slice 9 Kd.string) w A n xs) (i : Int) (h0 : 0 ≤ i) (h1 : i < n) : ∃ ad A0 c0, A = some ad ∧ w.cell? (ad.add i.toNat) = some (.slice A0 (rd_L1 xs i).length c0) ∧ (rd_L1 xs i).length ≤ c0 ∧ Kd.string.C w A0 (rd_L1 xs i).length (rd_L1 xs i) := by
  obtain ⟨ad, c, e, _, hK, hc0⟩ := Kd.C_get h ([] : List ByteArray) i h0 h1
  have hc : ∀ j u, c[j]? = some u → w.cell? (ad.add (i.toNat * 1 + j)) = some u := hc0
  obtain ⟨A0, c0, rfl, l0, g0⟩ := hK
  exact ⟨ad, A0, c0, e, by have hq := hc 0 _ rfl; rwa [Nat.mul_one, Nat.add_zero] at hq, l0, g0⟩

structure S37 where
  f0 : ByteArray
  f1 : ByteArray
def z37 : S37 := ⟨(⟨#[]⟩ : ByteArray), (⟨#[]⟩ : ByteArray)⟩
def k37 : Kd S37 := Kd.iso (Kd.pair Kd.string Kd.string) (fun x : S37 => (x.f0, x.f1))
theorem k37_open {w : World} {x : S37} {cs : List Value} (h : k37.K w x cs) : cs = [.string x.f0, .string x.f1] := by
  obtain ⟨_, _, rfl, rfl, rfl⟩ := h
  exact rfl
theorem k37_mkM (w : World) (base : Nat) (ok : Nat → Prop) (x : S37)  : k37.M w base ok x [.string x.f0, .string x.f1] := ⟨[.string x.f0], [.string x.f1], rfl, rfl, rfl⟩
def rd_T37 (xs : List S37) (i : Int) : S37 := xs.getD i.toNat z37
theorem at_T37 {w : World} {A : Option Addr} {n : Nat} {xs : List S37} (h : Kd.C k37 w A n xs) (i : Int) (h0 : 0 ≤ i) (h1 : i < n) : ∃ ad , A = some ad ∧ w.cell? (ad.add (i.toNat * 2)) = some (.string (rd_T37 xs i).f0) ∧ w.cell? ⟨(ad.add (i.toNat * 2)).block, (ad.add (i.toNat * 2)).off + 1, none⟩ = some (.string (rd_T37 xs i).f1) := by
  obtain ⟨ad, c, e, _, hK, hc0⟩ := Kd.C_get h z37 i h0 h1
  have hc : ∀ j u, c[j]? = some u → w.cell? (ad.add (i.toNat * 2 + j)) = some u := hc0
  obtain rfl := k37_open hK
  exact ⟨ad, e, hc 0 _ rfl, by rw [← add_field _ _ 1 (by omega)]; exact hc 1 _ rfl⟩

theorem eqA37 (d : Nat) (w : World) (x0 y0 : ByteArray) (x1 y1 : ByteArray) :
    (Op.equalIn (d + 2) 37 (.agg #[.string x0, .string x1]) (.agg #[.string y0, .string y1])).run Try.prog w = .ok (x0.toList == y0.toList && (x1.toList == y1.toList)) w := by
  refine eqA_of Try.underlying37 (by kernel_rfl) ?_
  refine eqf_cons (by rfl) (by go_simp; rfl) (by go_simp; rfl) (by go_simp) ?_
  exact eqf_last (by rfl) (by go_simp; rfl) (by go_simp; rfl) (by go_simp)
end Go.Proofs.Ytnlekganlliikaa.X
-- part XPre
namespace Go.Proofs.Ytnlekganlliikaa.X
open Go.RowKit Go.Proofs.YtnlekganlliikaaW.PrintWords
/-- A block whose cells are numbers, as a row of one's own. -/
theorem R_int_of_cells {k : IntKind} {W : World} {g base : Nat} {e : TypeId} {xs : List Int} (h : W.heap[g]? = some (.cells (xs.map (Value.int k)).toArray e (0, 0))) (hb : base ≤ g) (hl : xs.length ≤ maxLen) :
    Kd.R (Kd.int k) e W base (fun _ => True) (.slice (some ⟨g, 0, none⟩) xs.length xs.length) xs := by
  refine ⟨fun _ _ => trivial, xs.map (Value.int k), ⟨by simp [Kd.int, Kd.scalar], .inr ⟨g, xs.length, _, rfl, hb, h, Nat.le_refl _, hl, by simp [Kd.int, Kd.scalar], by simp [Kd.int, Kd.scalar, List.take_of_length_le]⟩⟩, by simp [Kd.int, Kd.scalar], fun j p hj => ?_⟩
  obtain ⟨hl, rfl⟩ := List.getElem?_eq_some_iff.1 hj
  show ((xs.map (Value.int k)).drop (j * 1)).take 1 = [Value.int k xs[j]]
  rw [Nat.mul_one, List.drop_eq_getElem_cons (by simpa using hl)]
  simp
section
variable {P : Program} {ops : Array Oper} {rest : List Oper} {o : Oper} {a : Act} {Q : Exit → Act → World → Prop} {W : World}
/-- An operation that yields a value, the world behind it as a letter. -/
theorem event_at {v : Value} {w1 : World} (hgd : o.guard = none) (hrun : (execOp a.eval o).run P W = .ok (.value v) w1) (h : ∀ w', Aside0 (w' = w1) → wpList P ops Q rest (a.put o.dst v) w') : wpList P ops Q (o :: rest) a W :=
  Kd.event_run hgd hrun (h _ ⟨rfl⟩)
/-- A store, the world behind it as a letter. -/
theorem store_at {w1 : World} (hgd : o.guard = none) {t : TypeId} {p : Tmp} {v : Operand} (ho : o.op = .store t (.tmp p) v) (hN : o.dst = none) (hrun : (execOp a.eval o).run P W = .ok .skip w1) (h : ∀ w', Aside0 (w' = w1) → wpList P ops Q rest a w') : wpList P ops Q (o :: rest) a W :=
  store_event hgd ho hN hrun (fun w' hw => h w' ⟨hw⟩)
end
theorem cell_blk {W : World} {g j : Nat} {cs : Array Value} {t : TypeId} {v : Value} (h : W.heap[g]? = some (.cells cs t (0, 0))) (hj : cs[j]? = some v) : W.cell? ⟨g, j, none⟩ = some v := by
  rw [cell_of_row W g j cs t (0, 0) h, hj]
theorem heap_set_same {W : World} {g j : Nat} {cs : Array Value} {t : TypeId} {fr : Nat × Nat} (h : W.heap[g]? = some (.cells cs t fr)) (v : Value) : (W.setCell ⟨g, j, none⟩ v).heap[g]? = some (.cells (cs.setIfInBounds j v) t fr) := by
  have hlt : g < W.heap.size := (Array.getElem?_eq_some_iff.1 h).1
  rw [Array.getElem?_eq_getElem hlt] at h
  injection h with h
  simp [World.setCell, hlt, Array.getElem_modify, h]
theorem heap_set_other {W : World} {g g' j : Nat} (hne : g' ≠ g) (v : Value) : (W.setCell ⟨g, j, none⟩ v).heap[g']? = W.heap[g']? := Below.heap_setCell W ⟨g, j, none⟩ v g' hne
theorem cell_alloc_of {w : World} {a : Addr} {v : Value} (h : w.cell? a = some v) (o : Obj) : (w.alloc o).cell? a = some v :=
  (World.cell?_alloc_lt _ _ _ (World.block_lt_of_cell? w a h)).trans h
end Go.Proofs.Ytnlekganlliikaa.X
-- part XRn4
namespace Go.Proofs.Ytnlekganlliikaa.X
open Go.RowKit Go.Proofs.YtnlekganlliikaaW.PrintWords Go.Proofs.YtnlekganlliikaaW.PrintLast Go.Proofs.YtnlekganlliikaaW.PrintMore
attribute [local go_sem] max2_int min2_int max_two min_two max_three min_three max_four min_four   -- for this text's walks alone
set_option linter.unusedVariables false
set_option linter.unusedSimpArgs false
attribute [local go_sem high] eqA37
mutual
def sennitref01_Few.l0 : Nat → List ByteArray → Int → Int → Option (Bool)
  | 0, _, _, _ => none
  | k + 1, x0, x1, x5 => if x5 < (x0.length : Int) then (sennitref01_Few.j1 k x0 x1 x5 (decide (x5 ≤ x1))) else (sennitref01_Few.j1 k x0 x1 x5 false)
def sennitref01_Few.j1 : Nat → List ByteArray → Int → Int → Bool → Option (Bool)
  | 0, _, _, _, _ => none
  | k + 1, x0, x1, x5, x14 => if x14 = true then (if 0 ≤ x5 then (if x5 < (x0.length : Int) then (if ((rdOf ByteArray.empty x0 x5).size : Int) > 100 then (some false) else (sennitref01_Few.l0 k x0 x1 (wrap64 (x5 + 1)))) else (none)) else (none)) else (some (decide ((x0.length : Int) ≤ x1)))
end
def sennitref01_Few.f (k : Nat) (l0 : List ByteArray) (a1 : Int) : Option (Bool) := sennitref01_Few.l0 k l0 a1 0
set_option maxHeartbeats 8000000 in
set_option maxRecDepth 100000 in
theorem sennitref01_Few.calls (k : Nat) (A0 : Option Addr) (c0 : Nat) (l0 : List ByteArray) (a1 : Int) (r : Bool) (w : World) (hr0 : Kd.C Kd.string w A0 l0.length l0) (hc0 : l0.length ≤ c0) (h : sennitref01_Few.f k l0 a1 = some r) :
    Calls Try.prog 22 #[.slice A0 l0.length c0, .int .i64 a1] w fun e w' => e = .returned (.bool r) ∧ Drawn0 w w' := by
  have HR0 := Aside0.mk hr0
  have HC0 := Aside0.mk hc0
  clear hr0 hc0
  have H : (sennitref01_Few.l0 k l0 a1 0) = some r := h
  clear h
  have H' := Aside0.mk H
  clear H
  go_enter Try.func22, Try.ntmps22
  go_wp2
  go_loopg [5] k (fun kq v5 w' => ∃ (x5_1 : Int), v5 = .int .i64 x5_1 ∧ Aside0 (sennitref01_Few.l0 kq l0 a1 x5_1 = some r) ∧ Aside0 (kq ≤ k) ∧ Drawn0 w w')
  case atStart => exact ⟨(0), (by first | rfl | (simp; done) | (simp [*]; done)), H', ⟨Nat.le_refl _⟩, by repeat (first | exact Drawn0.refl _ | apply Drawn0.step)⟩
  case round =>
    clear H'
    try clear c2
    try clear p2
    obtain ⟨x5_1, rfl, HA, HK1, ⟨m1, rfl⟩⟩ := hrel
    cases gk with
    | zero => exact absurd HA.out (by simp [sennitref01_Few.l0])
    | succ k1 =>
      have H := HA.out
      clear HA
      simp only [sennitref01_Few.l0] at H
      have HC3 := Aside0.mk H
      clear H
      go_upto_region 2 with (fail)
      go_cut [14] (fun v14 wc => ∃ (kq : Nat) (x14_2 : Bool), v14 = .bool x14_2 ∧ Aside0 (sennitref01_Few.j1 kq l0 a1 x5_1 x14_2 = some r) ∧ Aside0 (kq ≤ k1) ∧ Drawn0 w wc)
      case first =>
        have H := HC3.out
        clear HC3
        by_cases c4 : x5_1 < (l0.length : Int)
        · rw [if_pos c4] at H
          have c4b0 : decide (x5_1 < (l0.length : Int)) = true := decide_eq_true c4
          clear c4
          (first | rw [c4b0] | (simp only [i64_w, i32_w]; rw [c4b0]) | skip)
          have H' := Aside0.mk H
          clear H
          go_wp2
          go_meet
          case rel => exact ⟨_, (decide (x5_1 ≤ a1)), (by first | rfl | (simp; done) | (simp [*]; done)), H', ⟨by have := HK1.out; first | omega | exact Nat.le_refl _⟩, by repeat (first | exact Drawn0.refl _ | apply Drawn0.step)⟩
        · rw [if_neg c4] at H
          have c4b0 : decide (x5_1 < (l0.length : Int)) = false := decide_eq_false c4
          clear c4
          (first | rw [c4b0] | (simp only [i64_w, i32_w]; rw [c4b0]) | skip)
          have H' := Aside0.mk H
          clear H
          go_wp2
          go_meet
          case rel => exact ⟨_, (false), (by first | rfl | (simp; done) | (simp [*]; done)), H', ⟨by have := HK1.out; first | omega | exact Nat.le_refl _⟩, by repeat (first | exact Drawn0.refl _ | apply Drawn0.step)⟩
      case rest =>
        clear HC3
        try clear c2
        try clear p2
        try clear c4
        try clear c4b0
        try clear p2
        obtain ⟨kq, x14_2, rfl, HA, HJ2, ⟨mc2, rfl⟩⟩ := hcut
        cases kq with
        | zero => exact absurd HA.out (by simp [sennitref01_Few.j1])
        | succ kj2 =>
          have H := HA.out
          clear HA
          simp only [sennitref01_Few.j1] at H
          by_cases c5 : x14_2 = true
          · subst c5
            have H1 : (if 0 ≤ x5_1 then (if x5_1 < (l0.length : Int) then (if ((rdOf ByteArray.empty l0 x5_1).size : Int) > 100 then (some false) else (sennitref01_Few.l0 kj2 l0 a1 (wrap64 (x5_1 + 1)))) else (none)) else (none)) = some r := by rw [if_pos rfl] at H; exact H
            clear H
            have H := H1
            clear H1
            by_cases c6 : 0 ≤ x5_1
            · rw [if_pos c6] at H
              have c6b0 : decide (0 ≤ x5_1) = true := decide_eq_true c6
              clear c6
              by_cases c7 : x5_1 < (l0.length : Int)
              · rw [if_pos c7] at H
                have c7b0 : decide (x5_1 < (l0.length : Int)) = true := decide_eq_true c7
                clear c7
                by_cases c8 : ((rdOf ByteArray.empty l0 x5_1).size : Int) > 100
                · rw [if_pos c8] at H
                  have c8b0 : decide (100 < ((rdOf ByteArray.empty l0 x5_1).size : Int)) = true := decide_eq_true c8
                  have c8b1 : decide (100 < (rdOf ByteArray.empty l0 x5_1).size) = true := decide_eq_true (by omega)
                  clear c8
                  obtain rfl := Option.some.inj H
                  have p201 : 0 ≤ (x5_1 : Int) := of_decide_eq_true (by first | (with_reducible assumption) | assumption)
                  have q201 : x5_1 < (l0.length : Int) := of_decide_eq_true (by first | (with_reducible assumption) | assumption)
                  obtain ⟨ad201, e201, hx201_0⟩ := Kd.at_string HR0.out x5_1 p201 q201
                  cases e201
                  replace p201 := eq_true p201
                  replace q201 := eq_true q201
                  go_wp2
                  go_ret
                  exact ⟨by first | rfl | (simp; done) | (simp [*]; done), by repeat (first | exact Drawn0.refl _ | apply Drawn0.step)⟩
                · rw [if_neg c8] at H
                  have c8b0 : decide (100 < ((rdOf ByteArray.empty l0 x5_1).size : Int)) = false := decide_eq_false c8
                  have c8b1 : decide (100 < (rdOf ByteArray.empty l0 x5_1).size) = false := decide_eq_false (by omega)
                  clear c8
                  have H' := Aside0.mk H
                  clear H
                  have p201 : 0 ≤ (x5_1 : Int) := of_decide_eq_true (by first | (with_reducible assumption) | assumption)
                  have q201 : x5_1 < (l0.length : Int) := of_decide_eq_true (by first | (with_reducible assumption) | assumption)
                  obtain ⟨ad201, e201, hx201_0⟩ := Kd.at_string HR0.out x5_1 p201 q201
                  cases e201
                  replace p201 := eq_true p201
                  replace q201 := eq_true q201
                  go_wp2
                  go_roundg kj2
                  case measure => have := HK1.out; have := HJ2.out; omega
                  case rel => exact ⟨(wrap64 (x5_1 + 1)), (by first | rfl | (simp; done) | (simp [*]; done)), H', ⟨by have := HK1.out; have := HJ2.out; omega⟩, by repeat (first | exact Drawn0.refl _ | apply Drawn0.step)⟩
              · rw [if_neg c7] at H
                exact absurd H (by simp)
            · rw [if_neg c6] at H
              exact absurd H (by simp)
          · replace c5 := Bool.eq_false_iff.mpr c5
            subst c5
            have H1 : (some (decide ((l0.length : Int) ≤ a1))) = some r := by rw [if_neg (show ¬ (false = true) by decide)] at H; exact H
            clear H
            have H := H1
            clear H1
            obtain rfl := Option.some.inj H
            go_wp2
            go_ret
            exact ⟨by first | rfl | (simp; done) | (simp [*]; done), by repeat (first | exact Drawn0.refl _ | apply Drawn0.step)⟩

end Go.Proofs.Ytnlekganlliikaa.X
-- part XRn5
namespace Go.Proofs.Ytnlekganlliikaa.X
open Go.RowKit Go.Proofs.YtnlekganlliikaaW.PrintWords Go.Proofs.YtnlekganlliikaaW.PrintLast Go.Proofs.YtnlekganlliikaaW.PrintMore
attribute [local go_sem] max2_int min2_int max_two min_two max_three min_three max_four min_four   -- for this text's walks alone
set_option linter.unusedVariables false
set_option linter.unusedSimpArgs false
mutual
def sennitref20_Few.l0 : Nat → List ByteArray → List (List ByteArray) → Int → Option (Bool)
  | 0, _, _, _ => none
  | k + 1, x0, x1, x5 => if x5 < (x1.length : Int) then (sennitref20_Few.j1 k x0 x1 x5 (decide (x5 < 7))) else (sennitref20_Few.j1 k x0 x1 x5 false)
def sennitref20_Few.j1 : Nat → List ByteArray → List (List ByteArray) → Int → Bool → Option (Bool)
  | 0, _, _, _, _ => none
  | k + 1, x0, x1, x5, x13 => if x13 = true then (if 0 ≤ x5 then (if x5 < (x1.length : Int) then ((sennitref01_Few.f k (rd_L1 x1 x5) 16).bind fun t206 => (if t206 = true then (sennitref20_Few.l0 k x0 x1 (wrap64 (x5 + 1))) else (some false))) else (none)) else (none)) else ((sennitref01_Few.f k x0 16).bind fun t207 => (if t207 = true then (some (decide ((x1.length : Int) ≤ 6))) else (some false)))
end
def sennitref20_Few.f (k : Nat) (l0 : List ByteArray) (l1 : List (List ByteArray)) : Option (Bool) := sennitref20_Few.l0 k l0 l1 0
set_option maxHeartbeats 8000000 in
set_option maxRecDepth 100000 in
theorem sennitref20_Few.calls (k : Nat) (A0 : Option Addr) (c0 : Nat) (l0 : List ByteArray) (A1 : Option Addr) (c1 : Nat) (l1 : List (List ByteArray)) (r : Bool) (w : World) (hr0 : Kd.C Kd.string w A0 l0.length l0) (hc0 : l0.length ≤ c0) (hr1 : Kd.C (Kd.slice 9 Kd.string) w A1 l1.length l1) (hc1 : l1.length ≤ c1) (h : sennitref20_Few.f k l0 l1 = some r) :
    Calls Try.prog 24 #[.slice A0 l0.length c0, .slice A1 l1.length c1] w fun e w' => e = .returned (.bool r) ∧ Drawn0 w w' := by
  have HR0 := Aside0.mk hr0
  have HC0 := Aside0.mk hc0
  clear hr0 hc0
  have HR1 := Aside0.mk hr1
  have HC1 := Aside0.mk hc1
  clear hr1 hc1
  have H : (sennitref20_Few.l0 k l0 l1 0) = some r := h
  clear h
  have H' := Aside0.mk H
  clear H
  go_enter Try.func24, Try.ntmps24
  go_wp2
  go_loopg [5] k (fun kq v5 w' => ∃ (x5_1 : Int), v5 = .int .i64 x5_1 ∧ Aside0 (sennitref20_Few.l0 kq l0 l1 x5_1 = some r) ∧ Aside0 (kq ≤ k) ∧ Drawn0 w w')
  case atStart => exact ⟨(0), (by first | rfl | (simp; done) | (simp [*]; done)), H', ⟨Nat.le_refl _⟩, by repeat (first | exact Drawn0.refl _ | apply Drawn0.step)⟩
  case round =>
    clear H'
    try clear c1
    try clear c2
    try clear p2
    obtain ⟨x5_1, rfl, HA, HK1, ⟨m1, rfl⟩⟩ := hrel
    cases gk with
    | zero => exact absurd HA.out (by simp [sennitref20_Few.l0])
    | succ k1 =>
      have H := HA.out
      clear HA
      simp only [sennitref20_Few.l0] at H
      have HC3 := Aside0.mk H
      clear H
      go_upto_region 2 with (fail)
      go_cut [13] (fun v13 wc => ∃ (kq : Nat) (x13_2 : Bool), v13 = .bool x13_2 ∧ Aside0 (sennitref20_Few.j1 kq l0 l1 x5_1 x13_2 = some r) ∧ Aside0 (kq ≤ k1) ∧ Drawn0 w wc)
      case first =>
        have H := HC3.out
        clear HC3
        by_cases c4 : x5_1 < (l1.length : Int)
        · rw [if_pos c4] at H
          have c4b0 : decide (x5_1 < (l1.length : Int)) = true := decide_eq_true c4
          clear c4
          (first | rw [c4b0] | (simp only [i64_w, i32_w]; rw [c4b0]) | skip)
          have H' := Aside0.mk H
          clear H
          go_wp2
          go_meet
          case rel => exact ⟨_, (decide (x5_1 < 7)), (by first | rfl | (simp; done) | (simp [*]; done)), H', ⟨by have := HK1.out; first | omega | exact Nat.le_refl _⟩, by repeat (first | exact Drawn0.refl _ | apply Drawn0.step)⟩
        · rw [if_neg c4] at H
          have c4b0 : decide (x5_1 < (l1.length : Int)) = false := decide_eq_false c4
          clear c4
          (first | rw [c4b0] | (simp only [i64_w, i32_w]; rw [c4b0]) | skip)
          have H' := Aside0.mk H
          clear H
          go_wp2
          go_meet
          case rel => exact ⟨_, (false), (by first | rfl | (simp; done) | (simp [*]; done)), H', ⟨by have := HK1.out; first | omega | exact Nat.le_refl _⟩, by repeat (first | exact Drawn0.refl _ | apply Drawn0.step)⟩
      case rest =>
        clear HC3
        try clear c1
        try clear c2
        try clear p2
        try clear c4
        try clear c4b0
        try clear p2
        obtain ⟨kq, x13_2, rfl, HA, HJ2, ⟨mc2, rfl⟩⟩ := hcut
        cases kq with
        | zero => exact absurd HA.out (by simp [sennitref20_Few.j1])
        | succ kj2 =>
          have H := HA.out
          clear HA
          simp only [sennitref20_Few.j1] at H
          by_cases c5 : x13_2 = true
          · subst c5
            have H1 : (if 0 ≤ x5_1 then (if x5_1 < (l1.length : Int) then ((sennitref01_Few.f kj2 (rd_L1 l1 x5_1) 16).bind fun t206 => (if t206 = true then (sennitref20_Few.l0 kj2 l0 l1 (wrap64 (x5_1 + 1))) else (some false))) else (none)) else (none)) = some r := by rw [if_pos rfl] at H; exact H
            clear H
            have H := H1
            clear H1
            by_cases c6 : 0 ≤ x5_1
            · rw [if_pos c6] at H
              have c6b0 : decide (0 ≤ x5_1) = true := decide_eq_true c6
              clear c6
              by_cases c7 : x5_1 < (l1.length : Int)
              · rw [if_pos c7] at H
                have c7b0 : decide (x5_1 < (l1.length : Int)) = true := decide_eq_true c7
                clear c7
                replace H := Option.bind_eq_some_iff.mp H
                obtain ⟨t206, A80, H⟩ := H
                replace H : (if t206 = true then (sennitref20_Few.l0 kj2 l0 l1 (wrap64 (x5_1 + 1))) else (some false)) = some r := H
                have A8 := Aside0.mk A80
                clear A80
                by_cases c9 : t206 = true
                · subst c9
                  have H1 : (sennitref20_Few.l0 kj2 l0 l1 (wrap64 (x5_1 + 1))) = some r := by rw [if_pos rfl] at H; exact H
                  clear H
                  have H := H1
                  clear H1
                  have H' := Aside0.mk H
                  clear H
                  have p205 : 0 ≤ (x5_1 : Int) := of_decide_eq_true (by first | (with_reducible assumption) | assumption)
                  have q205 : x5_1 < (l1.length : Int) := of_decide_eq_true (by first | (with_reducible assumption) | assumption)
                  obtain ⟨ad205, A205_0, c205_0, e205, hx205_0, hl205_0, hi205_0⟩ := at_L1 HR1.out x5_1 p205 q205
                  cases e205
                  have HR205_0 := Aside0.mk hi205_0
                  have HC205_0 := Aside0.mk hl205_0
                  clear hi205_0 hl205_0
                  replace p205 := eq_true p205
                  replace q205 := eq_true q205
                  go_wp2_with (first | ((with_reducible refine gate_callee (f := 22) rfl ?_); refine goesL_ (some 20) rfl rfl Try.func22 (by kernel_rfl) rfl #[.slice A205_0 (rd_L1 l1 x5_1).length c205_0, .int .i64 16] rfl (by (try simp only [List.map_toArray, List.map_cons, List.map_nil]); first | done | rfl | (simp only [List.length_drop, List.length_take]; rfl)) ?_; (with_reducible refine (sennitref01_Few.calls kj2 _ _ (rd_L1 l1 x5_1) 16 true _ ?side1 ?side2 A8.out).mono ?_); (case side1 => repeat (first | exact HR205_0.out | (with_reducible refine Kd.C_alloc ?_ _) | (with_reducible refine Kd.C_drewN ?_ _) | (with_reducible refine Kd.C_drew ?_))); (case side2 => exact HC205_0.out); rintro e w' ⟨rfl, ⟨nd, rfl⟩⟩; refine ⟨_, rfl, ?_⟩))
                  go_roundg kj2
                  case measure => have := HK1.out; have := HJ2.out; omega
                  case rel => exact ⟨(wrap64 (x5_1 + 1)), (by first | rfl | (simp; done) | (simp [*]; done)), H', ⟨by have := HK1.out; have := HJ2.out; omega⟩, by repeat (first | exact Drawn0.refl _ | apply Drawn0.step)⟩
                · replace c9 := Bool.eq_false_iff.mpr c9
                  subst c9
                  have H1 : (some false) = some r := by rw [if_neg (show ¬ (false = true) by decide)] at H; exact H
                  clear H
                  have H := H1
                  clear H1
                  obtain rfl := Option.some.inj H
                  have p205 : 0 ≤ (x5_1 : Int) := of_decide_eq_true (by first | (with_reducible assumption) | assumption)
                  have q205 : x5_1 < (l1.length : Int) := of_decide_eq_true (by first | (with_reducible assumption) | assumption)
                  obtain ⟨ad205, A205_0, c205_0, e205, hx205_0, hl205_0, hi205_0⟩ := at_L1 HR1.out x5_1 p205 q205
                  cases e205
                  have HR205_0 := Aside0.mk hi205_0
                  have HC205_0 := Aside0.mk hl205_0
                  clear hi205_0 hl205_0
                  replace p205 := eq_true p205
                  replace q205 := eq_true q205
                  go_wp2_with (first | ((with_reducible refine gate_callee (f := 22) rfl ?_); refine goesL_ (some 20) rfl rfl Try.func22 (by kernel_rfl) rfl #[.slice A205_0 (rd_L1 l1 x5_1).length c205_0, .int .i64 16] rfl (by (try simp only [List.map_toArray, List.map_cons, List.map_nil]); first | done | rfl | (simp only [List.length_drop, List.length_take]; rfl)) ?_; (with_reducible refine (sennitref01_Few.calls kj2 _ _ (rd_L1 l1 x5_1) 16 false _ ?side1 ?side2 A8.out).mono ?_); (case side1 => repeat (first | exact HR205_0.out | (with_reducible refine Kd.C_alloc ?_ _) | (with_reducible refine Kd.C_drewN ?_ _) | (with_reducible refine Kd.C_drew ?_))); (case side2 => exact HC205_0.out); rintro e w' ⟨rfl, ⟨nd, rfl⟩⟩; refine ⟨_, rfl, ?_⟩))
                  go_ret
                  exact ⟨by first | rfl | (simp; done) | (simp [*]; done), by repeat (first | exact Drawn0.refl _ | apply Drawn0.step)⟩
              · rw [if_neg c7] at H
                exact absurd H (by simp)
            · rw [if_neg c6] at H
              exact absurd H (by simp)
          · replace c5 := Bool.eq_false_iff.mpr c5
            subst c5
            have H1 : ((sennitref01_Few.f kj2 l0 16).bind fun t207 => (if t207 = true then (some (decide ((l1.length : Int) ≤ 6))) else (some false))) = some r := by rw [if_neg (show ¬ (false = true) by decide)] at H; exact H
            clear H
            have H := H1
            clear H1
            replace H := Option.bind_eq_some_iff.mp H
            obtain ⟨t207, A100, H⟩ := H
            replace H : (if t207 = true then (some (decide ((l1.length : Int) ≤ 6))) else (some false)) = some r := H
            have A10 := Aside0.mk A100
            clear A100
            by_cases c11 : t207 = true
            · subst c11
              have H1 : (some (decide ((l1.length : Int) ≤ 6))) = some r := by rw [if_pos rfl] at H; exact H
              clear H
              have H := H1
              clear H1
              obtain rfl := Option.some.inj H
              go_wp2_with (first | ((with_reducible refine gate_callee (f := 22) rfl ?_); refine goesL_ (some 23) rfl rfl Try.func22 (by kernel_rfl) rfl #[.slice A0 l0.length c0, .int .i64 16] rfl (by (try simp only [List.map_toArray, List.map_cons, List.map_nil]); first | done | rfl | (simp only [List.length_drop, List.length_take]; rfl)) ?_; (with_reducible refine (sennitref01_Few.calls kj2 _ _ l0 16 true _ ?side1 ?side2 A10.out).mono ?_); (case side1 => repeat (first | exact HR0.out | (with_reducible refine Kd.C_alloc ?_ _) | (with_reducible refine Kd.C_drewN ?_ _) | (with_reducible refine Kd.C_drew ?_))); (case side2 => exact HC0.out); rintro e w' ⟨rfl, ⟨nd, rfl⟩⟩; refine ⟨_, rfl, ?_⟩))
              go_ret
              exact ⟨by first | rfl | (simp; done) | (simp [*]; done), by repeat (first | exact Drawn0.refl _ | apply Drawn0.step)⟩
            · replace c11 := Bool.eq_false_iff.mpr c11
              subst c11
              have H1 : (some false) = some r := by rw [if_neg (show ¬ (false = true) by decide)] at H; exact H
              clear H
              have H := H1
              clear H1
              obtain rfl := Option.some.inj H
              go_wp2_with (first | ((with_reducible refine gate_callee (f := 22) rfl ?_); refine goesL_ (some 23) rfl rfl Try.func22 (by kernel_rfl) rfl #[.slice A0 l0.length c0, .int .i64 16] rfl (by (try simp only [List.map_toArray, List.map_cons, List.map_nil]); first | done | rfl | (simp only [List.length_drop, List.length_take]; rfl)) ?_; (with_reducible refine (sennitref01_Few.calls kj2 _ _ l0 16 false _ ?side1 ?side2 A10.out).mono ?_); (case side1 => repeat (first | exact HR0.out | (with_reducible refine Kd.C_alloc ?_ _) | (with_reducible refine Kd.C_drewN ?_ _) | (with_reducible refine Kd.C_drew ?_))); (case side2 => exact HC0.out); rintro e w' ⟨rfl, ⟨nd, rfl⟩⟩; refine ⟨_, rfl, ?_⟩))
              go_ret
              exact ⟨by first | rfl | (simp; done) | (simp [*]; done), by repeat (first | exact Drawn0.refl _ | apply Drawn0.step)⟩

def sennitref01_feeds.l0 : Nat → ByteArray → Int → Int → Option (Int)
  | 0, _, _, _ => none
  | k + 1, x0, x3, x4 => if x4 < (x0.size : Int) then (if 0 ≤ x4 then (if (bt x0 x4) = 10 then (sennitref01_feeds.l0 k x0 (wrap64 (x3 + 1)) (wrap64 (x4 + 1))) else (sennitref01_feeds.l0 k x0 x3 (wrap64 (x4 + 1)))) else (none)) else (some x3)
def sennitref01_feeds.f (k : Nat) (a0 : ByteArray) : Option (Int) := sennitref01_feeds.l0 k a0 0 0
set_option maxHeartbeats 8000000 in
set_option maxRecDepth 100000 in
theorem sennitref01_feeds.calls (k : Nat) (a0 : ByteArray) (r : Int) (w : World) (h : sennitref01_feeds.f k a0 = some r) :
    Calls Try.prog 61 #[.string a0] w fun e w' => e = .returned (.int .i64 r) ∧ Drawn0 w w' := by
  have H : (sennitref01_feeds.l0 k a0 0 0) = some r := h
  clear h
  have H' := Aside0.mk H
  clear H
  go_enter Try.func61, Try.ntmps61
  go_wp2
  go_loopg [3, 4] k (fun kq v3 v4 w' => ∃ (x3_1 : Int) (x4_1 : Int), v3 = .int .i64 x3_1 ∧ v4 = .int .i64 x4_1 ∧ Aside0 (sennitref01_feeds.l0 kq a0 x3_1 x4_1 = some r) ∧ Aside0 (kq ≤ k) ∧ Drawn0 w w')
  case atStart => exact ⟨(0), (0), (by first | rfl | (simp; done) | (simp [*]; done)), (by first | rfl | (simp; done) | (simp [*]; done)), H', ⟨Nat.le_refl _⟩, by repeat (first | exact Drawn0.refl _ | apply Drawn0.step)⟩
  case round =>
    clear H'
    obtain ⟨x3_1, x4_1, rfl, rfl, HA, HK1, ⟨m1, rfl⟩⟩ := hrel
    cases gk with
    | zero => exact absurd HA.out (by simp [sennitref01_feeds.l0])
    | succ k1 =>
      have H := HA.out
      clear HA
      simp only [sennitref01_feeds.l0] at H
      by_cases c2 : x4_1 < (a0.size : Int)
      · rw [if_pos c2] at H
        have c2b0 : decide (x4_1 < (a0.size : Int)) = true := decide_eq_true c2
        clear c2
        by_cases c3 : 0 ≤ x4_1
        · rw [if_pos c3] at H
          have c3b0 : decide (0 ≤ x4_1) = true := decide_eq_true c3
          clear c3
          by_cases c5 : (bt a0 x4_1) = 10
          · rw [if_pos c5] at H
            have c5b0 : ((bt a0 x4_1) == 10) = true := beq_iff_eq.mpr c5
            have c5b1 : ((bt a0 x4_1) != 10) = false := bne_eq_false_iff_eq.mpr c5
            clear c5
            have H' := Aside0.mk H
            clear H
            have p4 : 0 ≤ (x4_1 : Int) := of_decide_eq_true (by first | (with_reducible assumption) | assumption)
            have q4 : x4_1 < (a0.size : Int) := of_decide_eq_true (by first | (with_reducible assumption) | assumption)
            have hx4 := bt_at a0 x4_1
            replace p4 := eq_true p4
            replace q4 := eq_true q4
            go_wp2
            go_roundg k1
            case measure => have := HK1.out; omega
            case rel => exact ⟨(wrap64 (x3_1 + 1)), (wrap64 (x4_1 + 1)), (by first | rfl | (simp; done) | (simp [*]; done)), (by first | rfl | (simp; done) | (simp [*]; done)), H', ⟨by have := HK1.out; omega⟩, by repeat (first | exact Drawn0.refl _ | apply Drawn0.step)⟩
          · rw [if_neg c5] at H
            have c5b0 : ((bt a0 x4_1) == 10) = false := beq_eq_false_iff_ne.mpr c5
            have c5b1 : ((bt a0 x4_1) != 10) = true := bne_iff_ne.mpr c5
            have H' := Aside0.mk H
            clear H
            have p4 : 0 ≤ (x4_1 : Int) := of_decide_eq_true (by first | (with_reducible assumption) | assumption)
            have q4 : x4_1 < (a0.size : Int) := of_decide_eq_true (by first | (with_reducible assumption) | assumption)
            have hx4 := bt_at a0 x4_1
            replace p4 := eq_true p4
            replace q4 := eq_true q4
            go_wp2
            go_roundg k1
            case measure => have := HK1.out; omega
            case rel => exact ⟨(x3_1), (wrap64 (x4_1 + 1)), (by first | rfl | (simp; done) | (simp [*]; done)), (by first | rfl | (simp; done) | (simp [*]; done)), H', ⟨by have := HK1.out; omega⟩, by repeat (first | exact Drawn0.refl _ | apply Drawn0.step)⟩
        · rw [if_neg c3] at H
          exact absurd H (by simp)
      · rw [if_neg c2] at H
        have c2b0 : decide (x4_1 < (a0.size : Int)) = false := decide_eq_false c2
        clear c2
        obtain rfl := Option.some.inj H
        go_wp2
        go_ret
        exact ⟨by first | rfl | (simp; done) | (simp [*]; done), by repeat (first | exact Drawn0.refl _ | apply Drawn0.step)⟩

def sennitref01_Line.f (k : Nat) (a0 : ByteArray) : Option (Bool) := (sennitref01_feeds.f k a0).bind fun t208 => (if t208 = 1 then (if 0 ≤ (wrap64 ((a0.size : Int) - 1)) then (if (wrap64 ((a0.size : Int) - 1)) < (a0.size : Int) then (some ((bt a0 (wrap64 ((a0.size : Int) - 1))) == 10)) else (none)) else (none)) else (some false))
set_option maxHeartbeats 8000000 in
set_option maxRecDepth 100000 in
theorem sennitref01_Line.calls (k : Nat) (a0 : ByteArray) (r : Bool) (w : World) (h : sennitref01_Line.f k a0 = some r) :
    Calls Try.prog 62 #[.string a0] w fun e w' => e = .returned (.bool r) ∧ Drawn0 w w' := by
  have H : ((sennitref01_feeds.f k a0).bind fun t208 => (if t208 = 1 then (if 0 ≤ (wrap64 ((a0.size : Int) - 1)) then (if (wrap64 ((a0.size : Int) - 1)) < (a0.size : Int) then (some ((bt a0 (wrap64 ((a0.size : Int) - 1))) == 10)) else (none)) else (none)) else (some false))) = some r := h
  clear h
  replace H := Option.bind_eq_some_iff.mp H
  obtain ⟨t208, A20, H⟩ := H
  replace H : (if t208 = 1 then (if 0 ≤ (wrap64 ((a0.size : Int) - 1)) then (if (wrap64 ((a0.size : Int) - 1)) < (a0.size : Int) then (some ((bt a0 (wrap64 ((a0.size : Int) - 1))) == 10)) else (none)) else (none)) else (some false)) = some r := H
  have A2 := Aside0.mk A20
  clear A20
  by_cases c3 : t208 = 1
  · rw [if_pos c3] at H
    have c3b0 : (t208 == 1) = true := beq_iff_eq.mpr c3
    have c3b1 : (t208 != 1) = false := bne_eq_false_iff_eq.mpr c3
    clear c3
    obtain ⟨ji4, hji4⟩ : ∃ j_ : Int, (wrap64 ((a0.size : Int) - 1)) = j_ := ⟨_, rfl⟩
    replace H : (if 0 ≤ (ji4) then (if (ji4) < (a0.size : Int) then (some ((bt a0 (ji4)) == 10)) else (none)) else (none)) = some r := by first | (rw [hji4] at H; exact H) | (simp only [hji4] at H ⊢; exact H)
    (try rw [hji4] at A2)
    have hji4w : (IntKind.i64.wrap ((a0.size : Int) - 1)) = ji4 := (i64_w _).trans hji4
    by_cases c5 : 0 ≤ (ji4)
    · rw [if_pos c5] at H
      have c5b0 : decide (0 ≤ (ji4)) = true := decide_eq_true c5
      clear c5
      by_cases c6 : (ji4) < (a0.size : Int)
      · rw [if_pos c6] at H
        have c6b0 : decide ((ji4) < (a0.size : Int)) = true := decide_eq_true c6
        clear c6
        obtain rfl := Option.some.inj H
        go_enter Try.func62, Try.ntmps62
        go_wp2_with (first | ((with_reducible refine gate_callee (f := 61) rfl ?_); refine goesL_ (some 4) rfl rfl Try.func61 (by kernel_rfl) rfl #[.string a0] rfl (by (try simp only [List.map_toArray, List.map_cons, List.map_nil]); first | done | rfl | (simp only [List.length_drop, List.length_take]; rfl)) ?_; (with_reducible refine (sennitref01_feeds.calls k a0 t208 _ A2.out).mono ?_); rintro e w' ⟨rfl, ⟨nd, rfl⟩⟩; refine ⟨_, rfl, ?_⟩; have p7 : 0 ≤ ((ji4) : Int) := of_decide_eq_true (by first | (with_reducible assumption) | assumption); have q7 : (ji4) < (a0.size : Int) := of_decide_eq_true (by first | (with_reducible assumption) | assumption); have hx7 := bt_at a0 (ji4); replace p7 := eq_true p7; replace q7 := eq_true q7))
        go_ret
        exact ⟨by first | rfl | (simp; done) | (simp only [← hji4] <;> (first | rfl | simp)) | (simp [*]; done), by repeat (first | exact Drawn0.refl _ | apply Drawn0.step)⟩
      · rw [if_neg c6] at H
        exact absurd H (by simp)
    · rw [if_neg c5] at H
      exact absurd H (by simp)
  · rw [if_neg c3] at H
    have c3b0 : (t208 == 1) = false := beq_eq_false_iff_ne.mpr c3
    have c3b1 : (t208 != 1) = true := bne_iff_ne.mpr c3
    obtain rfl := Option.some.inj H
    go_enter Try.func62, Try.ntmps62
    go_wp2_with (first | ((with_reducible refine gate_callee (f := 61) rfl ?_); refine goesL_ (some 4) rfl rfl Try.func61 (by kernel_rfl) rfl #[.string a0] rfl (by (try simp only [List.map_toArray, List.map_cons, List.map_nil]); first | done | rfl | (simp only [List.length_drop, List.length_take]; rfl)) ?_; (with_reducible refine (sennitref01_feeds.calls k a0 t208 _ A2.out).mono ?_); rintro e w' ⟨rfl, ⟨nd, rfl⟩⟩; refine ⟨_, rfl, ?_⟩))
    go_ret
    exact ⟨by first | rfl | (simp; done) | (simp [*]; done), by repeat (first | exact Drawn0.refl _ | apply Drawn0.step)⟩

def sennitref01_May.l0 : Nat → List ByteArray → Int → Option (Bool)
  | 0, _, _ => none
  | k + 1, x0, x3 => if x3 < (x0.length : Int) then (if x3 = (wrap64 ((x0.length : Int) - 1)) then (if 0 ≤ x3 then (if ((rdOf ByteArray.empty x0 x3).size : Int) > 0 then ((sennitref01_feeds.f k (rdOf ByteArray.empty x0 x3)).bind fun t211 => (if t211 = 0 then (sennitref01_May.l0 k x0 (wrap64 (x3 + 1))) else ((sennitref01_Line.f k (rdOf ByteArray.empty x0 x3)).bind fun t213 => (if t213 = true then (sennitref01_May.l0 k x0 (wrap64 (x3 + 1))) else (some false))))) else ((sennitref01_Line.f k (rdOf ByteArray.empty x0 x3)).bind fun t215 => (if t215 = true then (sennitref01_May.l0 k x0 (wrap64 (x3 + 1))) else (some false)))) else (none)) else (if 0 ≤ x3 then ((sennitref01_Line.f k (rdOf ByteArray.empty x0 x3)).bind fun t217 => (if t217 = true then (sennitref01_May.l0 k x0 (wrap64 (x3 + 1))) else (some false))) else (none))) else (some true)
def sennitref01_May.f (k : Nat) (l0 : List ByteArray) : Option (Bool) := sennitref01_May.l0 k l0 0
set_option maxHeartbeats 8000000 in
set_option maxRecDepth 100000 in
theorem sennitref01_May.calls (k : Nat) (A0 : Option Addr) (c0 : Nat) (l0 : List ByteArray) (r : Bool) (w : World) (hr0 : Kd.C Kd.string w A0 l0.length l0) (hc0 : l0.length ≤ c0) (h : sennitref01_May.f k l0 = some r) :
    Calls Try.prog 37 #[.slice A0 l0.length c0] w fun e w' => e = .returned (.bool r) ∧ Drawn0 w w' := by
  have HR0 := Aside0.mk hr0
  have HC0 := Aside0.mk hc0
  clear hr0 hc0
  have H : (sennitref01_May.l0 k l0 0) = some r := h
  clear h
  have H' := Aside0.mk H
  clear H
  go_enter Try.func37, Try.ntmps37
  go_wp2
  go_loopg [3] k (fun kq v3 w' => ∃ (x3_1 : Int), v3 = .int .i64 x3_1 ∧ Aside0 (sennitref01_May.l0 kq l0 x3_1 = some r) ∧ Aside0 (kq ≤ k) ∧ Drawn0 w w')
  case atStart => exact ⟨(0), (by first | rfl | (simp; done) | (simp [*]; done)), H', ⟨Nat.le_refl _⟩, by repeat (first | exact Drawn0.refl _ | apply Drawn0.step)⟩
  case round =>
    clear H'
    obtain ⟨x3_1, rfl, HA, HK1, ⟨m1, rfl⟩⟩ := hrel
    cases gk with
    | zero => exact absurd HA.out (by simp [sennitref01_May.l0])
    | succ k1 =>
      have H := HA.out
      clear HA
      simp only [sennitref01_May.l0] at H
      by_cases c2 : x3_1 < (l0.length : Int)
      · rw [if_pos c2] at H
        have c2b0 : decide (x3_1 < (l0.length : Int)) = true := decide_eq_true c2
        clear c2
        by_cases c3 : x3_1 = (wrap64 ((l0.length : Int) - 1))
        · rw [if_pos c3] at H
          have c3b0 : (x3_1 == (wrap64 ((l0.length : Int) - 1))) = true := beq_iff_eq.mpr c3
          have c3b1 : (x3_1 != (wrap64 ((l0.length : Int) - 1))) = false := bne_eq_false_iff_eq.mpr c3
          clear c3
          by_cases c4 : 0 ≤ x3_1
          · rw [if_pos c4] at H
            have c4b0 : decide (0 ≤ x3_1) = true := decide_eq_true c4
            clear c4
            by_cases c5 : ((rdOf ByteArray.empty l0 x3_1).size : Int) > 0
            · rw [if_pos c5] at H
              have c5b0 : decide (0 < ((rdOf ByteArray.empty l0 x3_1).size : Int)) = true := decide_eq_true c5
              have c5b1 : decide (0 < (rdOf ByteArray.empty l0 x3_1).size) = true := decide_eq_true (by omega)
              clear c5
              replace H := Option.bind_eq_some_iff.mp H
              obtain ⟨t211, A60, H⟩ := H
              replace H : (if t211 = 0 then (sennitref01_May.l0 k1 l0 (wrap64 (x3_1 + 1))) else ((sennitref01_Line.f k1 (rdOf ByteArray.empty l0 x3_1)).bind fun t213 => (if t213 = true then (sennitref01_May.l0 k1 l0 (wrap64 (x3_1 + 1))) else (some false)))) = some r := H
              have A6 := Aside0.mk A60
              clear A60
              by_cases c7 : t211 = 0
              · rw [if_pos c7] at H
                have c7b0 : (t211 == 0) = true := beq_iff_eq.mpr c7
                have c7b1 : (t211 != 0) = false := bne_eq_false_iff_eq.mpr c7
                clear c7
                have H' := Aside0.mk H
                clear H
                have p209 : 0 ≤ (x3_1 : Int) := of_decide_eq_true (by first | (with_reducible assumption) | assumption)
                have q209 : x3_1 < (l0.length : Int) := of_decide_eq_true (by first | (with_reducible assumption) | assumption)
                obtain ⟨ad209, e209, hx209_0⟩ := Kd.at_string HR0.out x3_1 p209 q209
                cases e209
                replace p209 := eq_true p209
                replace q209 := eq_true q209
                have p210 : 0 ≤ (x3_1 : Int) := of_decide_eq_true (by first | (with_reducible assumption) | assumption)
                have q210 : x3_1 < (l0.length : Int) := of_decide_eq_true (by first | (with_reducible assumption) | assumption)
                obtain ⟨ad210, e210, hx210_0⟩ := Kd.at_string HR0.out x3_1 p210 q210
                obtain rfl : ad209 = ad210 := (by injection e210)
                replace p210 := eq_true p210
                replace q210 := eq_true q210
                go_wp2_with (first | (go_at_call 61; (with_reducible refine (sennitref01_feeds.calls k1 (rdOf ByteArray.empty l0 x3_1) t211 _ A6.out).mono ?_); rintro e w' ⟨rfl, ⟨nd, rfl⟩⟩))
                go_roundg k1
                case measure => have := HK1.out; omega
                case rel => exact ⟨(wrap64 (x3_1 + 1)), (by first | rfl | (simp; done) | (simp [*]; done)), H', ⟨by have := HK1.out; omega⟩, by repeat (first | exact Drawn0.refl _ | apply Drawn0.step)⟩
              · rw [if_neg c7] at H
                have c7b0 : (t211 == 0) = false := beq_eq_false_iff_ne.mpr c7
                have c7b1 : (t211 != 0) = true := bne_iff_ne.mpr c7
                replace H := Option.bind_eq_some_iff.mp H
                obtain ⟨t213, A80, H⟩ := H
                replace H : (if t213 = true then (sennitref01_May.l0 k1 l0 (wrap64 (x3_1 + 1))) else (some false)) = some r := H
                have A8 := Aside0.mk A80
                clear A80
                by_cases c9 : t213 = true
                · subst c9
                  have H1 : (sennitref01_May.l0 k1 l0 (wrap64 (x3_1 + 1))) = some r := by rw [if_pos rfl] at H; exact H
                  clear H
                  have H := H1
                  clear H1
                  have H' := Aside0.mk H
                  clear H
                  have p209 : 0 ≤ (x3_1 : Int) := of_decide_eq_true (by first | (with_reducible assumption) | assumption)
                  have q209 : x3_1 < (l0.length : Int) := of_decide_eq_true (by first | (with_reducible assumption) | assumption)
                  obtain ⟨ad209, e209, hx209_0⟩ := Kd.at_string HR0.out x3_1 p209 q209
                  cases e209
                  replace p209 := eq_true p209
                  replace q209 := eq_true q209
                  have p210 : 0 ≤ (x3_1 : Int) := of_decide_eq_true (by first | (with_reducible assumption) | assumption)
                  have q210 : x3_1 < (l0.length : Int) := of_decide_eq_true (by first | (with_reducible assumption) | assumption)
                  obtain ⟨ad210, e210, hx210_0⟩ := Kd.at_string HR0.out x3_1 p210 q210
                  obtain rfl : ad209 = ad210 := (by injection e210)
                  replace p210 := eq_true p210
                  replace q210 := eq_true q210
                  go_wp2_with (first | (go_at_call 61; (with_reducible refine (sennitref01_feeds.calls k1 (rdOf ByteArray.empty l0 x3_1) t211 _ A6.out).mono ?_); rintro e w' ⟨rfl, ⟨nd, rfl⟩⟩; have p212 : 0 ≤ (x3_1 : Int) := of_decide_eq_true (by first | (with_reducible assumption) | assumption); have q212 : x3_1 < (l0.length : Int) := of_decide_eq_true (by first | (with_reducible assumption) | assumption); obtain ⟨ad212, e212, hx212_0⟩ := Kd.at_string HR0.out x3_1 p212 q212; obtain rfl : ad209 = ad212 := (by injection e212); replace p212 := eq_true p212; replace q212 := eq_true q212) | (go_at_call 62; (with_reducible refine (sennitref01_Line.calls k1 (rdOf ByteArray.empty l0 x3_1) true _ A8.out).mono ?_); rintro e w' ⟨rfl, ⟨nd, rfl⟩⟩))
                  go_roundg k1
                  case measure => have := HK1.out; omega
                  case rel => exact ⟨(wrap64 (x3_1 + 1)), (by first | rfl | (simp; done) | (simp [*]; done)), H', ⟨by have := HK1.out; omega⟩, by repeat (first | exact Drawn0.refl _ | apply Drawn0.step)⟩
                · replace c9 := Bool.eq_false_iff.mpr c9
                  subst c9
                  have H1 : (some false) = some r := by rw [if_neg (show ¬ (false = true) by decide)] at H; exact H
                  clear H
                  have H := H1
                  clear H1
                  obtain rfl := Option.some.inj H
                  have p209 : 0 ≤ (x3_1 : Int) := of_decide_eq_true (by first | (with_reducible assumption) | assumption)
                  have q209 : x3_1 < (l0.length : Int) := of_decide_eq_true (by first | (with_reducible assumption) | assumption)
                  obtain ⟨ad209, e209, hx209_0⟩ := Kd.at_string HR0.out x3_1 p209 q209
                  cases e209
                  replace p209 := eq_true p209
                  replace q209 := eq_true q209
                  have p210 : 0 ≤ (x3_1 : Int) := of_decide_eq_true (by first | (with_reducible assumption) | assumption)
                  have q210 : x3_1 < (l0.length : Int) := of_decide_eq_true (by first | (with_reducible assumption) | assumption)
                  obtain ⟨ad210, e210, hx210_0⟩ := Kd.at_string HR0.out x3_1 p210 q210
                  obtain rfl : ad209 = ad210 := (by injection e210)
                  replace p210 := eq_true p210
                  replace q210 := eq_true q210
                  go_wp2_with (first | (go_at_call 61; (with_reducible refine (sennitref01_feeds.calls k1 (rdOf ByteArray.empty l0 x3_1) t211 _ A6.out).mono ?_); rintro e w' ⟨rfl, ⟨nd, rfl⟩⟩; have p212 : 0 ≤ (x3_1 : Int) := of_decide_eq_true (by first | (with_reducible assumption) | assumption); have q212 : x3_1 < (l0.length : Int) := of_decide_eq_true (by first | (with_reducible assumption) | assumption); obtain ⟨ad212, e212, hx212_0⟩ := Kd.at_string HR0.out x3_1 p212 q212; obtain rfl : ad209 = ad212 := (by injection e212); replace p212 := eq_true p212; replace q212 := eq_true q212) | (go_at_call 62; (with_reducible refine (sennitref01_Line.calls k1 (rdOf ByteArray.empty l0 x3_1) false _ A8.out).mono ?_); rintro e w' ⟨rfl, ⟨nd, rfl⟩⟩))
                  go_ret
                  exact ⟨by first | rfl | (simp; done) | (simp [*]; done), by repeat (first | exact Drawn0.refl _ | apply Drawn0.step)⟩
            · rw [if_neg c5] at H
              have c5b0 : decide (0 < ((rdOf ByteArray.empty l0 x3_1).size : Int)) = false := decide_eq_false c5
              have c5b1 : decide (0 < (rdOf ByteArray.empty l0 x3_1).size) = false := decide_eq_false (by omega)
              clear c5
              replace H := Option.bind_eq_some_iff.mp H
              obtain ⟨t215, A100, H⟩ := H
              replace H : (if t215 = true then (sennitref01_May.l0 k1 l0 (wrap64 (x3_1 + 1))) else (some false)) = some r := H
              have A10 := Aside0.mk A100
              clear A100
              by_cases c11 : t215 = true
              · subst c11
                have H1 : (sennitref01_May.l0 k1 l0 (wrap64 (x3_1 + 1))) = some r := by rw [if_pos rfl] at H; exact H
                clear H
                have H := H1
                clear H1
                have H' := Aside0.mk H
                clear H
                have p209 : 0 ≤ (x3_1 : Int) := of_decide_eq_true (by first | (with_reducible assumption) | assumption)
                have q209 : x3_1 < (l0.length : Int) := of_decide_eq_true (by first | (with_reducible assumption) | assumption)
                obtain ⟨ad209, e209, hx209_0⟩ := Kd.at_string HR0.out x3_1 p209 q209
                cases e209
                replace p209 := eq_true p209
                replace q209 := eq_true q209
                have p214 : 0 ≤ (x3_1 : Int) := of_decide_eq_true (by first | (with_reducible assumption) | assumption)
                have q214 : x3_1 < (l0.length : Int) := of_decide_eq_true (by first | (with_reducible assumption) | assumption)
                obtain ⟨ad214, e214, hx214_0⟩ := Kd.at_string HR0.out x3_1 p214 q214
                obtain rfl : ad209 = ad214 := (by injection e214)
                replace p214 := eq_true p214
                replace q214 := eq_true q214
                go_wp2_with (first | (go_at_call 62; (with_reducible refine (sennitref01_Line.calls k1 (rdOf ByteArray.empty l0 x3_1) true _ A10.out).mono ?_); rintro e w' ⟨rfl, ⟨nd, rfl⟩⟩))
                go_roundg k1
                case measure => have := HK1.out; omega
                case rel => exact ⟨(wrap64 (x3_1 + 1)), (by first | rfl | (simp; done) | (simp [*]; done)), H', ⟨by have := HK1.out; omega⟩, by repeat (first | exact Drawn0.refl _ | apply Drawn0.step)⟩
              · replace c11 := Bool.eq_false_iff.mpr c11
                subst c11
                have H1 : (some false) = some r := by rw [if_neg (show ¬ (false = true) by decide)] at H; exact H
                clear H
                have H := H1
                clear H1
                obtain rfl := Option.some.inj H
                have p209 : 0 ≤ (x3_1 : Int) := of_decide_eq_true (by first | (with_reducible assumption) | assumption)
                have q209 : x3_1 < (l0.length : Int) := of_decide_eq_true (by first | (with_reducible assumption) | assumption)
                obtain ⟨ad209, e209, hx209_0⟩ := Kd.at_string HR0.out x3_1 p209 q209
                cases e209
                replace p209 := eq_true p209
                replace q209 := eq_true q209
                have p214 : 0 ≤ (x3_1 : Int) := of_decide_eq_true (by first | (with_reducible assumption) | assumption)
                have q214 : x3_1 < (l0.length : Int) := of_decide_eq_true (by first | (with_reducible assumption) | assumption)
                obtain ⟨ad214, e214, hx214_0⟩ := Kd.at_string HR0.out x3_1 p214 q214
                obtain rfl : ad209 = ad214 := (by injection e214)
                replace p214 := eq_true p214
                replace q214 := eq_true q214
                go_wp2_with (first | (go_at_call 62; (with_reducible refine (sennitref01_Line.calls k1 (rdOf ByteArray.empty l0 x3_1) false _ A10.out).mono ?_); rintro e w' ⟨rfl, ⟨nd, rfl⟩⟩))
                go_ret
                exact ⟨by first | rfl | (simp; done) | (simp [*]; done), by repeat (first | exact Drawn0.refl _ | apply Drawn0.step)⟩
          · rw [if_neg c4] at H
            exact absurd H (by simp)
        · rw [if_neg c3] at H
          have c3b0 : (x3_1 == (wrap64 ((l0.length : Int) - 1))) = false := beq_eq_false_iff_ne.mpr c3
          have c3b1 : (x3_1 != (wrap64 ((l0.length : Int) - 1))) = true := bne_iff_ne.mpr c3
          by_cases c12 : 0 ≤ x3_1
          · rw [if_pos c12] at H
            have c12b0 : decide (0 ≤ x3_1) = true := decide_eq_true c12
            clear c12
            replace H := Option.bind_eq_some_iff.mp H
            obtain ⟨t217, A130, H⟩ := H
            replace H : (if t217 = true then (sennitref01_May.l0 k1 l0 (wrap64 (x3_1 + 1))) else (some false)) = some r := H
            have A13 := Aside0.mk A130
            clear A130
            by_cases c14 : t217 = true
            · subst c14
              have H1 : (sennitref01_May.l0 k1 l0 (wrap64 (x3_1 + 1))) = some r := by rw [if_pos rfl] at H; exact H
              clear H
              have H := H1
              clear H1
              have H' := Aside0.mk H
              clear H
              have p216 : 0 ≤ (x3_1 : Int) := of_decide_eq_true (by first | (with_reducible assumption) | assumption)
              have q216 : x3_1 < (l0.length : Int) := of_decide_eq_true (by first | (with_reducible assumption) | assumption)
              obtain ⟨ad216, e216, hx216_0⟩ := Kd.at_string HR0.out x3_1 p216 q216
              cases e216
              replace p216 := eq_true p216
              replace q216 := eq_true q216
              go_wp2_with (first | (go_at_call 62; (with_reducible refine (sennitref01_Line.calls k1 (rdOf ByteArray.empty l0 x3_1) true _ A13.out).mono ?_); rintro e w' ⟨rfl, ⟨nd, rfl⟩⟩))
              go_roundg k1
              case measure => have := HK1.out; omega
              case rel => exact ⟨(wrap64 (x3_1 + 1)), (by first | rfl | (simp; done) | (simp [*]; done)), H', ⟨by have := HK1.out; omega⟩, by repeat (first | exact Drawn0.refl _ | apply Drawn0.step)⟩
            · replace c14 := Bool.eq_false_iff.mpr c14
              subst c14
              have H1 : (some false) = some r := by rw [if_neg (show ¬ (false = true) by decide)] at H; exact H
              clear H
              have H := H1
              clear H1
              obtain rfl := Option.some.inj H
              have p216 : 0 ≤ (x3_1 : Int) := of_decide_eq_true (by first | (with_reducible assumption) | assumption)
              have q216 : x3_1 < (l0.length : Int) := of_decide_eq_true (by first | (with_reducible assumption) | assumption)
              obtain ⟨ad216, e216, hx216_0⟩ := Kd.at_string HR0.out x3_1 p216 q216
              cases e216
              replace p216 := eq_true p216
              replace q216 := eq_true q216
              go_wp2_with (first | (go_at_call 62; (with_reducible refine (sennitref01_Line.calls k1 (rdOf ByteArray.empty l0 x3_1) false _ A13.out).mono ?_); rintro e w' ⟨rfl, ⟨nd, rfl⟩⟩))
              go_ret
              exact ⟨by first | rfl | (simp; done) | (simp [*]; done), by repeat (first | exact Drawn0.refl _ | apply Drawn0.step)⟩
          · rw [if_neg c12] at H
            exact absurd H (by simp)
      · rw [if_neg c2] at H
        have c2b0 : decide (x3_1 < (l0.length : Int)) = false := decide_eq_false c2
        clear c2
        obtain rfl := Option.some.inj H
        go_wp2
        go_ret
        exact ⟨by first | rfl | (simp; done) | (simp [*]; done), by repeat (first | exact Drawn0.refl _ | apply Drawn0.step)⟩

end Go.Proofs.Ytnlekganlliikaa.X
-- part XRn6
namespace Go.Proofs.Ytnlekganlliikaa.X
open Go.RowKit Go.Proofs.YtnlekganlliikaaW.PrintWords Go.Proofs.YtnlekganlliikaaW.PrintLast Go.Proofs.YtnlekganlliikaaW.PrintMore
attribute [local go_sem] max2_int min2_int max_two min_two max_three min_three max_four min_four   -- for this text's walks alone
set_option linter.unusedVariables false
set_option linter.unusedSimpArgs false
mutual
def sennitref20_wrong.j0 : Nat → List ByteArray → List (List ByteArray) → Bool → Option (Int)
  | 0, _, _, _ => none
  | k + 1, x0, x1, x15 => if x15 = true then (some 1) else ((sennitref01_May.f k x0).bind fun t218 => (sennitref20_wrong.l0 k x1 t218 (decide ((x0.length : Int) > 2000)) 0))
def sennitref20_wrong.l0 : Nat → List (List ByteArray) → Bool → Bool → Int → Option (Int)
  | 0, _, _, _, _ => none
  | k + 1, x1, x5, x6, x7 => if x7 < (x1.length : Int) then (if x5 = true then (if 0 ≤ x7 then ((sennitref01_May.f k (rd_L1 x1 x7)).bind fun t220 => (if x6 = true then (sennitref20_wrong.l0 k x1 t220 true (wrap64 (x7 + 1))) else (sennitref20_wrong.l0 k x1 t220 (decide (((rd_L1 x1 x7).length : Int) > 2000)) (wrap64 (x7 + 1))))) else (none)) else (if x6 = true then (sennitref20_wrong.l0 k x1 false true (wrap64 (x7 + 1))) else (if 0 ≤ x7 then (sennitref20_wrong.l0 k x1 false (decide (((rd_L1 x1 x7).length : Int) > 2000)) (wrap64 (x7 + 1))) else (none)))) else (if x5 = true then (if x6 = true then (some 4) else (some 0)) else (some 2))
end
def sennitref20_wrong.f (k : Nat) (l0 : List ByteArray) (l1 : List (List ByteArray)) : Option (Int) := if (l1.length : Int) = 0 then (sennitref20_wrong.j0 k l0 l1 true) else (sennitref20_wrong.j0 k l0 l1 (decide ((l1.length : Int) > 16)))
set_option maxHeartbeats 8000000 in
set_option maxRecDepth 100000 in
theorem sennitref20_wrong.calls (k : Nat) (A0 : Option Addr) (c0 : Nat) (l0 : List ByteArray) (A1 : Option Addr) (c1 : Nat) (l1 : List (List ByteArray)) (r : Int) (w : World) (hr0 : Kd.C Kd.string w A0 l0.length l0) (hc0 : l0.length ≤ c0) (hr1 : Kd.C (Kd.slice 9 Kd.string) w A1 l1.length l1) (hc1 : l1.length ≤ c1) (h : sennitref20_wrong.f k l0 l1 = some r) :
    Calls Try.prog 47 #[.slice A0 l0.length c0, .slice A1 l1.length c1] w fun e w' => e = .returned (.int .i64 r) ∧ Drawn0 w w' := by
  have HR0 := Aside0.mk hr0
  have HC0 := Aside0.mk hc0
  clear hr0 hc0
  have HR1 := Aside0.mk hr1
  have HC1 := Aside0.mk hc1
  clear hr1 hc1
  have H : (if (l1.length : Int) = 0 then (sennitref20_wrong.j0 k l0 l1 true) else (sennitref20_wrong.j0 k l0 l1 (decide ((l1.length : Int) > 16)))) = some r := h
  clear h
  have HC3 := Aside0.mk H
  clear H
  go_enter Try.func47, Try.ntmps47
  go_upto_region 1 with (fail)
  go_cut [15] (fun v15 wc => ∃ (kq : Nat) (x15_2 : Bool), v15 = .bool x15_2 ∧ Aside0 (sennitref20_wrong.j0 kq l0 l1 x15_2 = some r) ∧ Aside0 (kq ≤ k) ∧ Drawn0 w wc)
  case first =>
    have H := HC3.out
    clear HC3
    by_cases c4 : (l1.length : Int) = 0
    · rw [if_pos c4] at H
      have c4b0 : ((l1.length : Int) == 0) = true := beq_iff_eq.mpr c4
      have c4b1 : ((l1.length : Int) != 0) = false := bne_eq_false_iff_eq.mpr c4
      clear c4
      (first | rw [c4b0] | (simp only [i64_w, i32_w]; rw [c4b0]) | skip)
      have H' := Aside0.mk H
      clear H
      go_wp2
      go_meet
      case rel => exact ⟨_, (true), (by first | rfl | (simp; done) | (simp [*]; done)), H', ⟨by first | omega | exact Nat.le_refl _⟩, by repeat (first | exact Drawn0.refl _ | apply Drawn0.step)⟩
    · rw [if_neg c4] at H
      have c4b0 : ((l1.length : Int) == 0) = false := beq_eq_false_iff_ne.mpr c4
      have c4b1 : ((l1.length : Int) != 0) = true := bne_iff_ne.mpr c4
      have c4b2 : ¬ (l1 = []) := fun h_ => c4 (by rw [h_]; rfl)
      (first | rw [c4b0] | (simp only [i64_w, i32_w]; rw [c4b0]) | skip)
      have H' := Aside0.mk H
      clear H
      go_wp2
      go_meet
      case rel => exact ⟨_, (decide ((l1.length : Int) > 16)), (by first | rfl | (simp; done) | (simp [*]; done)), H', ⟨by first | omega | exact Nat.le_refl _⟩, by repeat (first | exact Drawn0.refl _ | apply Drawn0.step)⟩
  case rest =>
    clear HC3
    try clear c1
    try clear p2
    try clear c4
    try clear c4b0
    try clear c4b1
    try clear c4b2
    obtain ⟨kq, x15_2, rfl, HA, HJ2, ⟨mc2, rfl⟩⟩ := hcut
    cases kq with
    | zero => exact absurd HA.out (by simp [sennitref20_wrong.j0])
    | succ kj2 =>
      have H := HA.out
      clear HA
      simp only [sennitref20_wrong.j0] at H
      by_cases c5 : x15_2 = true
      · subst c5
        have H1 : (some 1) = some r := by rw [if_pos rfl] at H; exact H
        clear H
        have H := H1
        clear H1
        obtain rfl := Option.some.inj H
        go_wp2
        go_ret
        exact ⟨by first | rfl | (simp; done) | (simp [*]; done), by repeat (first | exact Drawn0.refl _ | apply Drawn0.step)⟩
      · replace c5 := Bool.eq_false_iff.mpr c5
        subst c5
        have H1 : ((sennitref01_May.f kj2 l0).bind fun t218 => (sennitref20_wrong.l0 kj2 l1 t218 (decide ((l0.length : Int) > 2000)) 0)) = some r := by rw [if_neg (show ¬ (false = true) by decide)] at H; exact H
        clear H
        have H := H1
        clear H1
        replace H := Option.bind_eq_some_iff.mp H
        obtain ⟨t218, A60, H⟩ := H
        replace H : (sennitref20_wrong.l0 kj2 l1 t218 (decide ((l0.length : Int) > 2000)) 0) = some r := H
        have A6 := Aside0.mk A60
        clear A60
        have H' := Aside0.mk H
        clear H
        go_wp2_with (first | ((with_reducible refine gate_callee (f := 37) rfl ?_); refine goesL_ (some 17) rfl rfl Try.func37 (by kernel_rfl) rfl #[.slice A0 l0.length c0] rfl (by (try simp only [List.map_toArray, List.map_cons, List.map_nil]); first | done | rfl | (simp only [List.length_drop, List.length_take]; rfl)) ?_; (with_reducible refine (sennitref01_May.calls kj2 _ _ l0 t218 _ ?side1 ?side2 A6.out).mono ?_); (case side1 => repeat (first | exact HR0.out | (with_reducible refine Kd.C_alloc ?_ _) | (with_reducible refine Kd.C_drewN ?_ _) | (with_reducible refine Kd.C_drew ?_))); (case side2 => exact HC0.out); rintro e w' ⟨rfl, ⟨nd, rfl⟩⟩; refine ⟨_, rfl, ?_⟩))
        go_loopg [5, 6, 7] kj2 (fun kq v5 v6 v7 w' => ∃ (x5_2 : Bool) (x6_2 : Bool) (x7_2 : Int), v5 = .bool x5_2 ∧ v6 = .bool x6_2 ∧ v7 = .int .i64 x7_2 ∧ Aside0 (sennitref20_wrong.l0 kq l1 x5_2 x6_2 x7_2 = some r) ∧ Aside0 (kq ≤ kj2) ∧ Drawn0 w w')
        case atStart => exact ⟨(t218), (decide ((l0.length : Int) > 2000)), (0), (by first | rfl | (simp; done) | (simp [*]; done)), (by first | rfl | (simp; done) | (simp [*]; done)), (by first | rfl | (simp; done) | (simp [*]; done)), H', ⟨Nat.le_refl _⟩, by repeat (first | exact Drawn0.refl _ | apply Drawn0.step)⟩
        case round =>
          clear H'
          try clear c1
          try clear c2
          try clear p2
          try clear c3
          try clear c4
          try clear c4b0
          try clear c4b1
          try clear c4b2
          try clear c5
          try clear p2
          obtain ⟨x5_2, x6_2, x7_2, rfl, rfl, rfl, HA, HK2, ⟨m2, rfl⟩⟩ := hrel
          cases gk with
          | zero => exact absurd HA.out (by simp [sennitref20_wrong.l0])
          | succ k2 =>
            have H := HA.out
            clear HA
            simp only [sennitref20_wrong.l0] at H
            by_cases c7 : x7_2 < (l1.length : Int)
            · rw [if_pos c7] at H
              have c7b0 : decide (x7_2 < (l1.length : Int)) = true := decide_eq_true c7
              clear c7
              by_cases c8 : x5_2 = true
              · subst c8
                have H1 : (if 0 ≤ x7_2 then ((sennitref01_May.f k2 (rd_L1 l1 x7_2)).bind fun t220 => (if x6_2 = true then (sennitref20_wrong.l0 k2 l1 t220 true (wrap64 (x7_2 + 1))) else (sennitref20_wrong.l0 k2 l1 t220 (decide (((rd_L1 l1 x7_2).length : Int) > 2000)) (wrap64 (x7_2 + 1))))) else (none)) = some r := by rw [if_pos rfl] at H; exact H
                clear H
                have H := H1
                clear H1
                by_cases c9 : 0 ≤ x7_2
                · rw [if_pos c9] at H
                  have c9b0 : decide (0 ≤ x7_2) = true := decide_eq_true c9
                  clear c9
                  replace H := Option.bind_eq_some_iff.mp H
                  obtain ⟨t220, A100, H⟩ := H
                  replace H : (if x6_2 = true then (sennitref20_wrong.l0 k2 l1 t220 true (wrap64 (x7_2 + 1))) else (sennitref20_wrong.l0 k2 l1 t220 (decide (((rd_L1 l1 x7_2).length : Int) > 2000)) (wrap64 (x7_2 + 1)))) = some r := H
                  have A10 := Aside0.mk A100
                  clear A100
                  by_cases c11 : x6_2 = true
                  · subst c11
                    have H1 : (sennitref20_wrong.l0 k2 l1 t220 true (wrap64 (x7_2 + 1))) = some r := by rw [if_pos rfl] at H; exact H
                    clear H
                    have H := H1
                    clear H1
                    have H' := Aside0.mk H
                    clear H
                    have p219 : 0 ≤ (x7_2 : Int) := of_decide_eq_true (by first | (with_reducible assumption) | assumption)
                    have q219 : x7_2 < (l1.length : Int) := of_decide_eq_true (by first | (with_reducible assumption) | assumption)
                    obtain ⟨ad219, A219_0, c219_0, e219, hx219_0, hl219_0, hi219_0⟩ := at_L1 HR1.out x7_2 p219 q219
                    cases e219
                    have HR219_0 := Aside0.mk hi219_0
                    have HC219_0 := Aside0.mk hl219_0
                    clear hi219_0 hl219_0
                    replace p219 := eq_true p219
                    replace q219 := eq_true q219
                    go_wp2_with (first | (go_at_call 37; (with_reducible refine (sennitref01_May.calls k2 _ _ (rd_L1 l1 x7_2) t220 _ ?side1 ?side2 A10.out).mono ?_); (case side1 => repeat (first | exact HR219_0.out | (with_reducible refine Kd.C_alloc ?_ _) | (with_reducible refine Kd.C_drewN ?_ _) | (with_reducible refine Kd.C_drew ?_))); (case side2 => exact HC219_0.out); rintro e w' ⟨rfl, ⟨nd, rfl⟩⟩))
                    go_roundg k2
                    case measure => have := HJ2.out; have := HK2.out; omega
                    case rel => exact ⟨(t220), (true), (wrap64 (x7_2 + 1)), (by first | rfl | (simp; done) | (simp [*]; done)), (by first | rfl | (simp; done) | (simp [*]; done)), (by first | rfl | (simp; done) | (simp [*]; done)), H', ⟨by have := HJ2.out; have := HK2.out; omega⟩, by repeat (first | exact Drawn0.refl _ | apply Drawn0.step)⟩
                  · replace c11 := Bool.eq_false_iff.mpr c11
                    subst c11
                    have H1 : (sennitref20_wrong.l0 k2 l1 t220 (decide (((rd_L1 l1 x7_2).length : Int) > 2000)) (wrap64 (x7_2 + 1))) = some r := by rw [if_neg (show ¬ (false = true) by decide)] at H; exact H
                    clear H
                    have H := H1
                    clear H1
                    have H' := Aside0.mk H
                    clear H
                    have p219 : 0 ≤ (x7_2 : Int) := of_decide_eq_true (by first | (with_reducible assumption) | assumption)
                    have q219 : x7_2 < (l1.length : Int) := of_decide_eq_true (by first | (with_reducible assumption) | assumption)
                    obtain ⟨ad219, A219_0, c219_0, e219, hx219_0, hl219_0, hi219_0⟩ := at_L1 HR1.out x7_2 p219 q219
                    cases e219
                    have HR219_0 := Aside0.mk hi219_0
                    have HC219_0 := Aside0.mk hl219_0
                    clear hi219_0 hl219_0
                    replace p219 := eq_true p219
                    replace q219 := eq_true q219
                    go_wp2_with (first | (go_at_call 37; (with_reducible refine (sennitref01_May.calls k2 _ _ (rd_L1 l1 x7_2) t220 _ ?side1 ?side2 A10.out).mono ?_); (case side1 => repeat (first | exact HR219_0.out | (with_reducible refine Kd.C_alloc ?_ _) | (with_reducible refine Kd.C_drewN ?_ _) | (with_reducible refine Kd.C_drew ?_))); (case side2 => exact HC219_0.out); rintro e w' ⟨rfl, ⟨nd, rfl⟩⟩; have p221 : 0 ≤ (x7_2 : Int) := of_decide_eq_true (by first | (with_reducible assumption) | assumption); have q221 : x7_2 < (l1.length : Int) := of_decide_eq_true (by first | (with_reducible assumption) | assumption); obtain ⟨ad221, A221_0, c221_0, e221, hx221_0, hl221_0, hi221_0⟩ := at_L1 HR1.out x7_2 p221 q221; obtain rfl : ad219 = ad221 := (by injection e221); have HR221_0 := Aside0.mk hi221_0; have HC221_0 := Aside0.mk hl221_0; clear hi221_0 hl221_0; replace p221 := eq_true p221; replace q221 := eq_true q221; have ea_ := Option.some.inj (hx219_0.symm.trans hx221_0); injection ea_ with ea_ en_ ec_; subst ea_; subst ec_; clear en_))
                    go_roundg k2
                    case measure => have := HJ2.out; have := HK2.out; omega
                    case rel => exact ⟨(t220), (decide (((rd_L1 l1 x7_2).length : Int) > 2000)), (wrap64 (x7_2 + 1)), (by first | rfl | (simp; done) | (simp [*]; done)), (by first | rfl | (simp; done) | (simp [*]; done)), (by first | rfl | (simp; done) | (simp [*]; done)), H', ⟨by have := HJ2.out; have := HK2.out; omega⟩, by repeat (first | exact Drawn0.refl _ | apply Drawn0.step)⟩
                · rw [if_neg c9] at H
                  exact absurd H (by simp)
              · replace c8 := Bool.eq_false_iff.mpr c8
                subst c8
                have H1 : (if x6_2 = true then (sennitref20_wrong.l0 k2 l1 false true (wrap64 (x7_2 + 1))) else (if 0 ≤ x7_2 then (sennitref20_wrong.l0 k2 l1 false (decide (((rd_L1 l1 x7_2).length : Int) > 2000)) (wrap64 (x7_2 + 1))) else (none))) = some r := by rw [if_neg (show ¬ (false = true) by decide)] at H; exact H
                clear H
                have H := H1
                clear H1
                by_cases c12 : x6_2 = true
                · subst c12
                  have H1 : (sennitref20_wrong.l0 k2 l1 false true (wrap64 (x7_2 + 1))) = some r := by rw [if_pos rfl] at H; exact H
                  clear H
                  have H := H1
                  clear H1
                  have H' := Aside0.mk H
                  clear H
                  go_wp2
                  go_roundg k2
                  case measure => have := HJ2.out; have := HK2.out; omega
                  case rel => exact ⟨(false), (true), (wrap64 (x7_2 + 1)), (by first | rfl | (simp; done) | (simp [*]; done)), (by first | rfl | (simp; done) | (simp [*]; done)), (by first | rfl | (simp; done) | (simp [*]; done)), H', ⟨by have := HJ2.out; have := HK2.out; omega⟩, by repeat (first | exact Drawn0.refl _ | apply Drawn0.step)⟩
                · replace c12 := Bool.eq_false_iff.mpr c12
                  subst c12
                  have H1 : (if 0 ≤ x7_2 then (sennitref20_wrong.l0 k2 l1 false (decide (((rd_L1 l1 x7_2).length : Int) > 2000)) (wrap64 (x7_2 + 1))) else (none)) = some r := by rw [if_neg (show ¬ (false = true) by decide)] at H; exact H
                  clear H
                  have H := H1
                  clear H1
                  by_cases c13 : 0 ≤ x7_2
                  · rw [if_pos c13] at H
                    have c13b0 : decide (0 ≤ x7_2) = true := decide_eq_true c13
                    clear c13
                    have H' := Aside0.mk H
                    clear H
                    have p222 : 0 ≤ (x7_2 : Int) := of_decide_eq_true (by first | (with_reducible assumption) | assumption)
                    have q222 : x7_2 < (l1.length : Int) := of_decide_eq_true (by first | (with_reducible assumption) | assumption)
                    obtain ⟨ad222, A222_0, c222_0, e222, hx222_0, hl222_0, hi222_0⟩ := at_L1 HR1.out x7_2 p222 q222
                    cases e222
                    have HR222_0 := Aside0.mk hi222_0
                    have HC222_0 := Aside0.mk hl222_0
                    clear hi222_0 hl222_0
                    replace p222 := eq_true p222
                    replace q222 := eq_true q222
                    go_wp2
                    go_roundg k2
                    case measure => have := HJ2.out; have := HK2.out; omega
                    case rel => exact ⟨(false), (decide (((rd_L1 l1 x7_2).length : Int) > 2000)), (wrap64 (x7_2 + 1)), (by first | rfl | (simp; done) | (simp [*]; done)), (by first | rfl | (simp; done) | (simp [*]; done)), (by first | rfl | (simp; done) | (simp [*]; done)), H', ⟨by have := HJ2.out; have := HK2.out; omega⟩, by repeat (first | exact Drawn0.refl _ | apply Drawn0.step)⟩
                  · rw [if_neg c13] at H
                    exact absurd H (by simp)
            · rw [if_neg c7] at H
              have c7b0 : decide (x7_2 < (l1.length : Int)) = false := decide_eq_false c7
              clear c7
              by_cases c14 : x5_2 = true
              · subst c14
                have H1 : (if x6_2 = true then (some 4) else (some 0)) = some r := by rw [if_pos rfl] at H; exact H
                clear H
                have H := H1
                clear H1
                by_cases c15 : x6_2 = true
                · subst c15
                  have H1 : (some 4) = some r := by rw [if_pos rfl] at H; exact H
                  clear H
                  have H := H1
                  clear H1
                  obtain rfl := Option.some.inj H
                  go_wp2
                  go_ret
                  exact ⟨by first | rfl | (simp; done) | (simp [*]; done), by repeat (first | exact Drawn0.refl _ | apply Drawn0.step)⟩
                · replace c15 := Bool.eq_false_iff.mpr c15
                  subst c15
                  have H1 : (some 0) = some r := by rw [if_neg (show ¬ (false = true) by decide)] at H; exact H
                  clear H
                  have H := H1
                  clear H1
                  obtain rfl := Option.some.inj H
                  go_wp2
                  go_ret
                  exact ⟨by first | rfl | (simp; done) | (simp [*]; done), by repeat (first | exact Drawn0.refl _ | apply Drawn0.step)⟩
              · replace c14 := Bool.eq_false_iff.mpr c14
                subst c14
                have H1 : (some 2) = some r := by rw [if_neg (show ¬ (false = true) by decide)] at H; exact H
                clear H
                have H := H1
                clear H1
                obtain rfl := Option.some.inj H
                go_wp2
                go_ret
                exact ⟨by first | rfl | (simp; done) | (simp [*]; done), by repeat (first | exact Drawn0.refl _ | apply Drawn0.step)⟩

def sennitref20_May.f (k : Nat) (l0 : List ByteArray) (l1 : List (List ByteArray)) : Option (Bool) := (sennitref20_Few.f k l0 l1).bind fun t251 => (if t251 = true then ((sennitref20_wrong.f k l0 l1).bind fun t252 => (some (t252 == 0))) else (some false))
set_option maxHeartbeats 8000000 in
set_option maxRecDepth 100000 in
theorem sennitref20_May.calls (k : Nat) (A0 : Option Addr) (c0 : Nat) (l0 : List ByteArray) (A1 : Option Addr) (c1 : Nat) (l1 : List (List ByteArray)) (r : Bool) (w : World) (hr0 : Kd.C Kd.string w A0 l0.length l0) (hc0 : l0.length ≤ c0) (hr1 : Kd.C (Kd.slice 9 Kd.string) w A1 l1.length l1) (hc1 : l1.length ≤ c1) (h : sennitref20_May.f k l0 l1 = some r) :
    Calls Try.prog 27 #[.slice A0 l0.length c0, .slice A1 l1.length c1] w fun e w' => e = .returned (.bool r) ∧ Drawn0 w w' := by
  have HR0 := Aside0.mk hr0
  have HC0 := Aside0.mk hc0
  clear hr0 hc0
  have HR1 := Aside0.mk hr1
  have HC1 := Aside0.mk hc1
  clear hr1 hc1
  have H : ((sennitref20_Few.f k l0 l1).bind fun t251 => (if t251 = true then ((sennitref20_wrong.f k l0 l1).bind fun t252 => (some (t252 == 0))) else (some false))) = some r := h
  clear h
  replace H := Option.bind_eq_some_iff.mp H
  obtain ⟨t251, A30, H⟩ := H
  replace H : (if t251 = true then ((sennitref20_wrong.f k l0 l1).bind fun t252 => (some (t252 == 0))) else (some false)) = some r := H
  have A3 := Aside0.mk A30
  clear A30
  by_cases c4 : t251 = true
  · subst c4
    have H1 : ((sennitref20_wrong.f k l0 l1).bind fun t252 => (some (t252 == 0))) = some r := by rw [if_pos rfl] at H; exact H
    clear H
    have H := H1
    clear H1
    replace H := Option.bind_eq_some_iff.mp H
    obtain ⟨t252, A50, H⟩ := H
    replace H : (some (t252 == 0)) = some r := H
    have A5 := Aside0.mk A50
    clear A50
    obtain rfl := Option.some.inj H
    go_enter Try.func27, Try.ntmps27
    go_wp2_with (first | ((with_reducible refine gate_callee (f := 24) rfl ?_); refine goesL_ (some 7) rfl rfl Try.func24 (by kernel_rfl) rfl #[.slice A0 l0.length c0, .slice A1 l1.length c1] rfl (by (try simp only [List.map_toArray, List.map_cons, List.map_nil]); first | done | rfl | (simp only [List.length_drop, List.length_take]; rfl)) ?_; (with_reducible refine (sennitref20_Few.calls k _ _ l0 _ _ l1 true _ ?side1 ?side2 ?side3 ?side4 A3.out).mono ?_); (case side1 => repeat (first | exact HR0.out | (with_reducible refine Kd.C_alloc ?_ _) | (with_reducible refine Kd.C_drewN ?_ _) | (with_reducible refine Kd.C_drew ?_))); (case side2 => exact HC0.out); (case side3 => repeat (first | exact HR1.out | (with_reducible refine Kd.C_alloc ?_ _) | (with_reducible refine Kd.C_drewN ?_ _) | (with_reducible refine Kd.C_drew ?_))); (case side4 => exact HC1.out); rintro e w' ⟨rfl, ⟨nd, rfl⟩⟩; refine ⟨_, rfl, ?_⟩) | (go_at_call 47; (with_reducible refine (sennitref20_wrong.calls k _ _ l0 _ _ l1 t252 _ ?side1 ?side2 ?side3 ?side4 A5.out).mono ?_); (case side1 => repeat (first | exact HR0.out | (with_reducible refine Kd.C_alloc ?_ _) | (with_reducible refine Kd.C_drewN ?_ _) | (with_reducible refine Kd.C_drew ?_))); (case side2 => exact HC0.out); (case side3 => repeat (first | exact HR1.out | (with_reducible refine Kd.C_alloc ?_ _) | (with_reducible refine Kd.C_drewN ?_ _) | (with_reducible refine Kd.C_drew ?_))); (case side4 => exact HC1.out); rintro e w' ⟨rfl, ⟨nd, rfl⟩⟩))
    go_ret
    exact ⟨by first | rfl | (simp; done) | (simp [*]; done), by repeat (first | exact Drawn0.refl _ | apply Drawn0.step)⟩
  · replace c4 := Bool.eq_false_iff.mpr c4
    subst c4
    have H1 : (some false) = some r := by rw [if_neg (show ¬ (false = true) by decide)] at H; exact H
    clear H
    have H := H1
    clear H1
    obtain rfl := Option.some.inj H
    go_enter Try.func27, Try.ntmps27
    go_wp2_with (first | ((with_reducible refine gate_callee (f := 24) rfl ?_); refine goesL_ (some 7) rfl rfl Try.func24 (by kernel_rfl) rfl #[.slice A0 l0.length c0, .slice A1 l1.length c1] rfl (by (try simp only [List.map_toArray, List.map_cons, List.map_nil]); first | done | rfl | (simp only [List.length_drop, List.length_take]; rfl)) ?_; (with_reducible refine (sennitref20_Few.calls k _ _ l0 _ _ l1 false _ ?side1 ?side2 ?side3 ?side4 A3.out).mono ?_); (case side1 => repeat (first | exact HR0.out | (with_reducible refine Kd.C_alloc ?_ _) | (with_reducible refine Kd.C_drewN ?_ _) | (with_reducible refine Kd.C_drew ?_))); (case side2 => exact HC0.out); (case side3 => repeat (first | exact HR1.out | (with_reducible refine Kd.C_alloc ?_ _) | (with_reducible refine Kd.C_drewN ?_ _) | (with_reducible refine Kd.C_drew ?_))); (case side4 => exact HC1.out); rintro e w' ⟨rfl, ⟨nd, rfl⟩⟩; refine ⟨_, rfl, ?_⟩))
    go_ret
    exact ⟨by first | rfl | (simp; done) | (simp [*]; done), by repeat (first | exact Drawn0.refl _ | apply Drawn0.step)⟩

end Go.Proofs.Ytnlekganlliikaa.X
-- part XKit
namespace Go.Proofs.Ytnlekganlliikaa.X
open Go.RowKit Go.Proofs.YtnlekganlliikaaW.PrintWords Go.Proofs.YtnlekganlliikaaW.PrintLast Go.Proofs.YtnlekganlliikaaW.PrintMore
set_option linter.unusedVariables false
set_option linter.unusedSimpArgs false
/-- A block of known cells, read as a row. -/
theorem C_blk {α : Type} {d : Kd α} {W : World} {g : Nat} {t : TypeId} {fr : Nat × Nat} {xs : List α} {inner : List Value} (h : W.heap[g]? = some (.cells inner.toArray t fr)) (hr : Reps (d.K W) d.sz xs inner) (hl : xs.length ≤ 9223372036854775807) : d.C W (some ⟨g, 0, none⟩) xs.length xs := by
  refine ⟨rfl, hl, fun _ => ⟨_, rfl, fun j p hj => ⟨_, ?_, hr.2 j p hj, fun i u hu => ?_⟩⟩⟩
  · have hjl := (List.getElem?_eq_some_iff.1 hj).1
    have h1 : j * d.sz + d.sz ≤ inner.length := by rw [hr.1, ← Nat.succ_mul]; exact Nat.mul_le_mul_right _ hjl
    rw [List.length_take, List.length_drop]; omega
  · have hil := (List.getElem?_eq_some_iff.1 hu).1
    rw [List.length_take] at hil
    rw [List.getElem?_take_of_lt (by omega), List.getElem?_drop] at hu
    have : W.cell? ⟨g, j * d.sz + i, none⟩ = some u := by rw [cell_of_row W g _ _ t fr h]; simpa using hu
    obtain ⟨q, hq⟩ : ∃ q, j * d.sz + i = q := ⟨_, rfl⟩
    rw [hq] at this ⊢
    by_cases e : q = 0
    · subst e; simpa [Addr.add] using this
    · simpa [Addr.add, e] using this
/-- A step of a call that keeps the old: as seen from the law's world. -/
theorem far_ {W w w' : World} (h : Below W.heap.size W w) (hb : Below w.heap.size w w') : Below W.heap.size W w' := h.trans (hb.mono h.size)
/-- An element that is a slice. -/
theorem at_slice {α : Type} {e : Nat} {d : Kd α} {w : World} {A : Option Addr} {n : Nat} {xs : List (List α)} (h : (Kd.slice e d).C w A n xs) (i : Nat) (hi : i < n) :
    ∃ ad A0 c0, A = some ad ∧ w.cell? (ad.add i) = some (.slice A0 (xs.getD i []).length c0) ∧ (xs.getD i []).length ≤ c0 ∧ d.C w A0 (xs.getD i []).length (xs.getD i []) := by
  obtain ⟨ad, c, e1, _, ⟨A0, c0, e2, e3, e4⟩, e5⟩ := ReadsRow.get_ h [] (i : Int) (by omega) (by omega)
  rw [Int.toNat_natCast] at e2 e3 e4 e5
  subst e2
  have := e5 0 _ rfl
  rw [show i * (Kd.slice e d).sz + 0 = i from by rw [show (Kd.slice e d).sz = 1 from rfl]; omega] at this
  exact ⟨ad, A0, c0, e1, this, e3, e4⟩
theorem at_str {w : World} {A : Option Addr} {n : Nat} {xs : List ByteArray} (h : Kd.string.C w A n xs) (i : Nat) (hi : i < n) : ∃ ad, A = some ad ∧ w.cell? (ad.add i) = some (.string (xs.getD i ByteArray.empty)) := by
  obtain ⟨ad, e, hc⟩ := Kd.at_string h (i : Int) (by omega) (by omega)
  rw [Int.toNat_natCast] at hc
  refine ⟨ad, e, ?_⟩
  rw [hc, rdOf, Int.toNat_natCast]
theorem at_num {k : IntKind} {w : World} {A : Option Addr} {n : Nat} {xs : List Int} (h : (Kd.int k).C w A n xs) (i : Nat) (hi : i < n) : ∃ ad, A = some ad ∧ w.cell? (ad.add i) = some (.int k (xs.getD i 0)) := by
  obtain ⟨ad, e, hc⟩ := Kd.at_int h (i : Int) (by omega) (by omega)
  rw [Int.toNat_natCast] at hc
  refine ⟨ad, e, ?_⟩
  rw [hc, rd, Int.toNat_natCast]
theorem getD_get {α : Type} {d : α} {l : List α} {i : Nat} (h : i < l.length) : l.getD i d = l[i] := by simp [h]
theorem C_cap {α : Type} {d : Kd α} {w : World} {A : Option Addr} {n : Nat} {xs : List α} (h : d.C w A n xs) : xs.length = n := h.1
end Go.Proofs.Ytnlekganlliikaa.X
-- part XHeld
namespace Go.Proofs.Ytnlekganlliikaa.X
open Go.RowKit Go.Proofs.YtnlekganlliikaaW.PrintWords Go.Proofs.YtnlekganlliikaaW.PrintLast Go.Proofs.YtnlekganlliikaaW.PrintMore
set_option linter.unusedVariables false
set_option linter.unusedSimpArgs false
/-- A kind, read at one world. -/
def heldK {α : Type} (w0 : World) (d : Kd α) : Kd α where
  sz := d.sz
  E := []
  K := fun _ x cs => d.K w0 x cs
  M := fun _ _ _ x cs => d.K w0 x cs
  K_len := fun h => d.K_len h
  K_one := fun h => d.K_one h
  K_below := fun _ h => h
  K_of_M := fun h => h
  M_mono := fun _ h => h
  M_bound := fun h => h
  M_move := fun _ h => h
  M_lower := fun _ h => h
section
variable {α : Type} {d : Kd α} {w0 w w1 : World} {A : Option Addr} {n e base : Nat} {ok : Nat → Prop} {v : Value} {xs : List α}
theorem held_C (h : d.C w0 A n xs) (hb : Below w0.heap.size w0 w) : (heldK w0 d).C w A n xs := by
  refine ⟨h.1, h.2.1, fun hn => ?_⟩
  obtain ⟨ad, e, hc⟩ := h.2.2 hn
  refine ⟨ad, e, fun j p hj => ?_⟩
  obtain ⟨c, h1, h2, h3⟩ := hc j p hj
  exact ⟨c, h1, h2, fun i u hu => (hb.cell (World.block_lt_of_cell? w0 _ (h3 i u hu))).trans (h3 i u hu)⟩
theorem C_held (h : (heldK w0 d).C w A n xs) (hb : Below w0.heap.size w0 w) : d.C w A n xs := by
  refine ⟨h.1, h.2.1, fun hn => ?_⟩
  obtain ⟨ad, e, hc⟩ := h.2.2 hn
  refine ⟨ad, e, fun j p hj => ?_⟩
  obtain ⟨c, h1, h2, h3⟩ := hc j p hj
  exact ⟨c, h1, d.K_below hb h2, h3⟩
theorem R_held_reads (h : (heldK w0 d).R e w base ok v xs) (hb : Below w0.heap.size w0 w) : ∃ A c, v = .slice A xs.length c ∧ xs.length ≤ c ∧ d.C w A xs.length xs := by
  obtain ⟨A, c, rfl, hl, hC⟩ := Kd.R_reads h
  exact ⟨A, c, rfl, hl, C_held hC hb⟩
end
/-- A list of texts as an element: its slice. -/
theorem strs_K {w : World} {A : Option Addr} {c : Nat} {l : List ByteArray} (h : Kd.C Kd.string w A l.length l) (hc : l.length ≤ c) : (Kd.slice 9 Kd.string).K w l [.slice A l.length c] := ⟨A, c, rfl, hc, h⟩
theorem strs_nil (w : World) : (Kd.slice 9 Kd.string).K w [] [.slice none 0 0] := ⟨none, 0, rfl, Nat.le_refl _, Kd.C_nil _ _⟩
end Go.Proofs.Ytnlekganlliikaa.X
-- part XInternMath
namespace Go.Proofs.Ytnlekganlliikaa.X
set_option linter.unusedVariables false
set_option linter.unusedSimpArgs false
/-- Where a text stands first; behind all, if it doesn't. -/
def place (s : ByteArray) : List ByteArray → Nat
  | [] => 0
  | x :: xs => if x = s then 0 else place s xs + 1
/-- A table, and one text more, if it is new. -/
def addT (t : List ByteArray) (s : ByteArray) : List ByteArray := if place s t < t.length then t else t ++ [s]
theorem place_le (s : ByteArray) : ∀ t, place s t ≤ t.length
  | [] => Nat.le_refl _
  | x :: xs => by
    have := place_le s xs
    simp only [place, List.length_cons]
    split <;> omega
theorem place_get (s : ByteArray) : ∀ {t : List ByteArray} (h : place s t < t.length), t[place s t] = s
  | [], h => by simp [place] at h
  | x :: xs, h => by
    by_cases e : x = s
    · simp [place, e]
    · have h' : place s xs < xs.length := by simpa [place, e] using h
      simp only [place, e, if_false, List.getElem_cons_succ]
      exact place_get s h'
theorem place_mem (s : ByteArray) : ∀ {t : List ByteArray}, s ∈ t ↔ place s t < t.length
  | [] => by simp [place]
  | x :: xs => by
    by_cases e : x = s
    · simp [place, e]
    · have e' : ¬ s = x := fun h => e h.symm
      simp [place, e, e', place_mem s (t := xs)]
theorem place_append (s : ByteArray) : ∀ {t : List ByteArray} (u : List ByteArray), place s t < t.length → place s (t ++ u) = place s t
  | [], u, h => by simp [place] at h
  | x :: xs, u, h => by
    by_cases e : x = s
    · simp [place, e]
    · have h' : place s xs < xs.length := by simpa [place, e] using h
      simp [place, e, place_append s u h']
theorem place_new (s : ByteArray) : ∀ {t : List ByteArray} (u : List ByteArray), ¬ place s t < t.length → place s (t ++ s :: u) = t.length
  | [], u, h => by simp [place]
  | x :: xs, u, h => by
    by_cases e : x = s
    · simp [place, e] at h
    · have h' : ¬ place s xs < xs.length := by simpa [place, e] using h
      simp [place, e, place_new s u h']
theorem place_not {s : ByteArray} {t : List ByteArray} (h : ¬ place s t < t.length) : place s t = t.length := by
  have := place_le s t; omega
theorem addT_length (t : List ByteArray) (s : ByteArray) : t.length ≤ (addT t s).length ∧ (addT t s).length ≤ t.length + 1 := by
  unfold addT; split <;> simp
/-- The numbers of some texts, and the table then. -/
def idsOne : List ByteArray → List ByteArray → List ByteArray × List Int
  | t, [] => (t, [])
  | t, s :: l => ((idsOne (addT t s) l).1, (place s t : Int) :: (idsOne (addT t s) l).2)
def idsMany : List ByteArray → List (List ByteArray) → List (List Int)
  | _, [] => []
  | t, l :: ls => (idsOne t l).2 :: idsMany (idsOne t l).1 ls
/-- The numbers of all texts of some files. -/
def idsAll (files : List (List ByteArray)) : List (List Int) := idsMany [] files
theorem idsOne_length : ∀ (t l : List ByteArray), (idsOne t l).2.length = l.length
  | t, [] => rfl
  | t, s :: l => by simp [idsOne, idsOne_length (addT t s) l]
theorem idsOne_snoc : ∀ (t l : List ByteArray) (s : ByteArray), idsOne t (l ++ [s]) = (addT (idsOne t l).1 s, (idsOne t l).2 ++ [(place s (idsOne t l).1 : Int)])
  | t, [], s => by simp [idsOne]
  | t, x :: l, s => by simp [idsOne, idsOne_snoc (addT t x) l s]
theorem idsOne_table_le : ∀ (t l : List ByteArray), (idsOne t l).1.length ≤ t.length + l.length
  | t, [] => by simp [idsOne]
  | t, s :: l => by
    have h1 := idsOne_table_le (addT t s) l
    have h2 := (addT_length t s).2
    simp only [idsOne, List.length_cons]; omega
theorem idsMany_length : ∀ (t : List ByteArray) (ls : List (List ByteArray)), (idsMany t ls).length = ls.length
  | _, [] => rfl
  | t, l :: ls => by simp [idsMany, idsMany_length (idsOne t l).1 ls]
/-- The table behind some files. -/
def tabOf : List ByteArray → List (List ByteArray) → List ByteArray
  | t, [] => t
  | t, l :: ls => tabOf (idsOne t l).1 ls
theorem tabOf_snoc : ∀ (t : List ByteArray) (ls : List (List ByteArray)) (l : List ByteArray), tabOf t (ls ++ [l]) = (idsOne (tabOf t ls) l).1
  | t, [], l => rfl
  | t, x :: ls, l => tabOf_snoc (idsOne t x).1 ls l
theorem idsMany_snoc : ∀ (t : List ByteArray) (ls : List (List ByteArray)) (l : List ByteArray), idsMany t (ls ++ [l]) = idsMany t ls ++ [(idsOne (tabOf t ls) l).2]
  | t, [], l => rfl
  | t, x :: ls, l => by simp [idsMany, tabOf, idsMany_snoc (idsOne t x).1 ls l]
end Go.Proofs.Ytnlekganlliikaa.X
-- part XLcsMath
namespace Go.Proofs.Ytnlekganlliikaa.X
/-- How long the longest common sequence is. -/
def lcsL : List Int → List Int → Nat
  | [], _ => 0
  | _ :: _, [] => 0
  | x :: xs, y :: ys => if x = y then lcsL xs ys + 1 else max (lcsL xs (y :: ys)) (lcsL (x :: xs) ys)
  termination_by a b => a.length + b.length

@[simp] theorem lcsL_nil_left (b : List Int) : lcsL [] b = 0 := by unfold lcsL; rfl
@[simp] theorem lcsL_nil_right (a : List Int) : lcsL a [] = 0 := by cases a <;> (unfold lcsL; rfl)
theorem lcsL_cons (x y : Int) (xs ys : List Int) : lcsL (x :: xs) (y :: ys) = if x = y then lcsL xs ys + 1 else max (lcsL xs (y :: ys)) (lcsL (x :: xs) ys) := by
  rw [lcsL]

/-- What is done at two suffixes: 0 both are paired, 1 the first list's is passed over, 2 the second's. -/
def stepAt : List Int → List Int → Int
  | x :: xs, y :: ys => if x = y then 0 else if lcsL (x :: xs) ys ≤ lcsL xs (y :: ys) then 1 else 2
  | _, _ => 0

/-- The whole table, row by row. -/
def stepsOf (a b : List Int) : List Int := (List.range (a.length * b.length)).map fun k => stepAt (a.drop (k / b.length)) (b.drop (k % b.length))

/-- With which place of the second list each of the first one's is paired: from the place j on. -/
def matchFrom : List Int → List Int → Nat → List Int
  | [], _, _ => []
  | _ :: xs, [], j => -1 :: matchFrom xs [] j
  | x :: xs, y :: ys, j => if x = y then (j : Int) :: matchFrom xs ys (j + 1) else if lcsL (x :: xs) ys ≤ lcsL xs (y :: ys) then -1 :: matchFrom xs (y :: ys) j else matchFrom (x :: xs) ys (j + 1)
  termination_by a b _ => a.length + b.length

def matchOf (a b : List Int) : List Int := matchFrom a b 0

theorem lcsL_ex (a b : List Int) : ∃ s : List Int, s.Sublist a ∧ s.Sublist b ∧ s.length = lcsL a b := by
  match a, b with
  | [], b => exact ⟨[], by simp, by simp, by simp⟩
  | x :: xs, [] => exact ⟨[], by simp, by simp, by simp⟩
  | x :: xs, y :: ys =>
    rw [lcsL_cons]
    by_cases e : x = y
    · subst e
      rw [if_pos rfl]
      obtain ⟨s, h1, h2, h3⟩ := lcsL_ex xs ys
      exact ⟨x :: s, h1.cons_cons x, h2.cons_cons x, by simp [h3]⟩
    · rw [if_neg e]
      obtain ⟨s, h1, h2, h3⟩ := lcsL_ex xs (y :: ys)
      obtain ⟨s', h1', h2', h3'⟩ := lcsL_ex (x :: xs) ys
      rcases Nat.le_total (lcsL (x :: xs) ys) (lcsL xs (y :: ys)) with h | h
      · exact ⟨s, h1.cons x, h2, by omega⟩
      · exact ⟨s', h1', h2'.cons y, by omega⟩
  termination_by a.length + b.length

theorem lcsL_le_right (a b : List Int) : lcsL a b ≤ b.length := let ⟨_, _, h1, h3⟩ := lcsL_ex a b; h3 ▸ h1.length_le
theorem matchFrom_nil (b : List Int) (j : Nat) : matchFrom [] b j = [] := by unfold matchFrom; rfl
theorem matchFrom_none (x : Int) (xs : List Int) (j : Nat) : matchFrom (x :: xs) [] j = -1 :: matchFrom xs [] j := by rw [matchFrom]
theorem matchFrom_cons (x y : Int) (xs ys : List Int) (j : Nat) : matchFrom (x :: xs) (y :: ys) j = if x = y then (j : Int) :: matchFrom xs ys (j + 1) else if lcsL (x :: xs) ys ≤ lcsL xs (y :: ys) then -1 :: matchFrom xs (y :: ys) j else matchFrom (x :: xs) ys (j + 1) := by rw [matchFrom]
theorem matchFrom_rest (a : List Int) (j : Nat) : matchFrom a [] j = List.replicate a.length (-1) := by
  induction a with
  | nil => rw [matchFrom_nil]; rfl
  | cons x a ih => rw [matchFrom_none, ih]; rfl

theorem matchFrom_length (a b : List Int) (j : Nat) : (matchFrom a b j).length = a.length := by
  match a, b with
  | [], b => simp [matchFrom_nil]
  | x :: xs, [] => simp [matchFrom_rest]
  | x :: xs, y :: ys =>
    rw [matchFrom_cons]
    split
    · simp [matchFrom_length xs ys]
    · split
      · simp [matchFrom_length xs (y :: ys)]
      · exact matchFrom_length (x :: xs) ys _
  termination_by a.length + b.length

/-- All that is told of a match: each place is told -1, or one of b's, that holds the same; they rise; as many are as the longest. -/
def Rises (a b : List Int) (j : Nat) : List Int → Nat → Prop
  | [], n => n = 0 ∧ True
  | m :: ms, n => (m = -1 ∧ Rises a.tail b j ms n) ∨ (∃ k n', m = ((j + k : Nat) : Int) ∧ n = n' + 1 ∧ b[k]? = a.head? ∧ a ≠ [] ∧ Rises a.tail (b.drop (k + 1)) (j + k + 1) ms n')

theorem rises_shift {a b : List Int} {j : Nat} {y : Int} : ∀ {ms : List Int} {n : Nat}, ms.length = a.length → Rises a b (j + 1) ms n → Rises a (y :: b) j ms n := by
  intro ms
  induction ms generalizing a with
  | nil => intro n _ h; exact h
  | cons m ms ih =>
    intro n hl h
    rcases h with ⟨h1, h2⟩ | ⟨k, n', h1, h2, h3, h4, h5⟩
    · exact .inl ⟨h1, ih (by simp at hl ⊢; omega) h2⟩
    · exact .inr ⟨k + 1, n', by rw [h1]; congr 1; omega, h2, by simpa using h3, h4, by rw [show j + (k + 1) + 1 = j + 1 + k + 1 from by omega]; simpa using h5⟩

theorem matchFrom_rises (a b : List Int) (j : Nat) : Rises a b j (matchFrom a b j) (lcsL a b) := by
  match a, b with
  | [], b => rw [matchFrom_nil, lcsL_nil_left]; exact ⟨rfl, trivial⟩
  | x :: xs, [] =>
    rw [matchFrom_none, lcsL_nil_right]
    have := matchFrom_rises xs [] j
    rw [lcsL_nil_right] at this
    exact .inl ⟨rfl, this⟩
  | x :: xs, y :: ys =>
    rw [matchFrom_cons, lcsL_cons]
    by_cases e : x = y
    · subst e
      rw [if_pos rfl, if_pos rfl]
      exact .inr ⟨0, lcsL xs ys, by simp, rfl, by simp, by simp, by simpa using matchFrom_rises xs ys (j + 1)⟩
    · rw [if_neg e, if_neg e]
      by_cases h : lcsL (x :: xs) ys ≤ lcsL xs (y :: ys)
      · rw [if_pos h, Nat.max_eq_left h]
        exact .inl ⟨rfl, matchFrom_rises xs (y :: ys) j⟩
      · rw [if_neg h, Nat.max_eq_right (by omega)]
        exact rises_shift (matchFrom_length _ _ _) (matchFrom_rises (x :: xs) ys (j + 1))
  termination_by a.length + b.length
end Go.Proofs.Ytnlekganlliikaa.X
-- part XBuild
namespace Go.Proofs.Ytnlekganlliikaa.X
open Go.RowKit Go.Proofs.YtnlekganlliikaaW.PrintWords Go.Proofs.YtnlekganlliikaaW.PrintLast Go.Proofs.YtnlekganlliikaaW.PrintMore
set_option linter.unusedVariables false
set_option linter.unusedSimpArgs false
theorem sizeBuilder : (Try.prog.info? 67).map (·.size) = some 2 := by kernel_rfl

set_option maxHeartbeats 1000000 in
set_option maxRecDepth 100000 in
theorem copyCheck_used (b : Nat) (w : World) (h0 : w.cell? ⟨b, 0, none⟩ = some (.pointer (some ⟨b, 0, none⟩))) :
    Calls Try.prog 66 #[.pointer (some ⟨b, 0, none⟩)] w fun e w' => e = .returned (.tuple #[]) ∧ w' = w := by
  obtain ⟨j, hj, _⟩ := Option.map_eq_some_iff.1 sizeBuilder
  go_enter Try.func66, Try.ntmps66
  go_wp2
  rw [Lib.run_neq_ptr_same w _ Try.underlying64 hj]
  go_wp2
  go_end0
  exact ⟨rfl, rfl⟩

set_option maxHeartbeats 1000000 in
set_option maxRecDepth 100000 in
theorem copyCheck_fresh (b : Nat) (w : World) (h0 : w.cell? ⟨b, 0, none⟩ = some (.pointer none)) (hsh : w.shape? b = some (67, 2)) (hfz : w.frozen? ⟨b, 0, none⟩ = false) :
    Calls Try.prog 66 #[.pointer (some ⟨b, 0, none⟩)] w fun e w' => e = .returned (.tuple #[]) ∧ w' = w.setCell ⟨b, 0, none⟩ (.pointer (some ⟨b, 0, none⟩)) := by
  obtain ⟨j, hj, hjs⟩ := Option.map_eq_some_iff.1 sizeBuilder
  go_enter Try.func66, Try.ntmps66
  go_wp2
  rw [Lib.run_to_unsafe w ⟨b, 0, none⟩ Try.underlying64 Try.underlying132 hj (by rw [hjs]; decide) hsh (Nat.zero_lt_succ 1)]
  simp only [Result.andThen]
  rw [Oper.upon_value]
  go_wp2
  rw [run_callFunc_extern Try.func83 (by kernel_rfl) (by kernel_rfl) (by kernel_rfl) (e := Extern.AbiNoEscape.same) (by kernel_rfl)]
  rw [Lib.run_noEscape]
  simp only [Result.andThen]
  rw [Oper.upon_value]
  go_wp2
  rw [Lib.run_from_unsafe w ⟨b, 0, none⟩ Try.underlying132 Try.underlying64 hj hsh (by kernel_rfl)]
  simp only [Result.andThen]
  rw [Oper.upon_value]
  go_wp2
  go_end0
  exact ⟨rfl, rfl⟩

theorem copyCheck_calls (B b : Nat) (bs : List Value) (w : World) (h : Lib.IsBuilder 67 5 B b bs w) :
    Calls Try.prog 66 #[.pointer (some ⟨b, 0, none⟩)] w fun e w' => e = .returned (.tuple #[]) ∧ (Lib.BuilderAt 67 5 B b (.pointer (some ⟨b, 0, none⟩)) bs w' ∧ Below B w w') := by
  rcases h with h | h
  · refine (copyCheck_fresh b w h.cell0 h.shape h.frozen0).mono ?_
    rintro e w' ⟨rfl, rfl⟩
    exact ⟨rfl, h.used _, (Below.refl B w).setCell (p := ⟨b, 0, none⟩) h.1 _⟩
  · refine (copyCheck_used b w h.cell0).mono ?_
    rintro e w' ⟨rfl, rfl⟩
    exact ⟨rfl, h, Below.refl B _⟩

set_option maxHeartbeats 2000000 in
set_option maxRecDepth 100000 in
theorem writeByte_calls (B b : Nat) (bs : List Value) (c : Int) (w : World) (h : Lib.IsBuilder 67 5 B b bs w) (hlen : bs.length + 1 ≤ 140737488355328) (hBw : B ≤ w.heap.size) :
    Calls Try.prog 40 #[.pointer (some ⟨b, 0, none⟩), .int .u8 c] w fun e w' => e = .returned .nilIface ∧ (Lib.BuilderAt 67 5 B b (.pointer (some ⟨b, 0, none⟩)) (bs ++ [.int .u8 c]) w' ∧ Below B w w') := by
  obtain ⟨i0, hi, hz0, hz1, hz2⟩ := info_parts (P := Try.prog) (e := 5) (z := .int .u8 0) (size := 1) (bytes := 1) (by kernel_rfl)
  go_enter Try.func40, Try.ntmps40
  go_wp2_with fail
  refine (copyCheck_calls B b bs _ h).mono ?_
  rintro e w1 ⟨rfl, h1, hb1⟩
  obtain ⟨hB, v, hbk, hown, hne⟩ := h1
  have c0 : w1.cell? ⟨b, 0, none⟩ = some (.pointer (some ⟨b, 0, none⟩)) := by rw [Lib.cell_of_heap hbk]; rfl
  have c1 : w1.cell? ⟨b, 1, none⟩ = some v := by rw [Lib.cell_of_heap hbk]; rfl
  go_wp2_with (at_builtin; refine wpList_append_own _ rfl _ _ 65 rfl B 5 i0 (.int .u8 0) 1 1 Try.underlying65 hi hz0 hz1 hz2 rfl (by decide) _ _ _ rfl (hown.alloc _) ⟨w1.heap.size, 0, none⟩ 1 1 [.int .u8 c] rfl rfl ?c1 ?c2 ?c3 ?c4 ?c5 ?_)
  case c1 =>
    intro j u hj
    match j, hj with
    | 0, hj => simp at hj; subst hj; simp [Addr.add]
  case c2 => intro u hu; simp at hu; subst hu; rfl
  case c3 => unfold maxLen; omega
  case c4 => omega
  case c5 => have := hb1.size; simp; omega
  intro v' w2 hown' hgrow _
  have hlt : b < w1.heap.size := by
    rcases Nat.lt_or_ge b w1.heap.size with h' | h'
    · exact h'
    · simp [Array.getElem?_eq_none h'] at hbk
  have hb2 : w2.heap[b]? = some (.cells #[.pointer (some ⟨b, 0, none⟩), v] 67 (0, 0)) := by
    rw [hgrow.block b (by simp; omega) (fun e => hne e.symm), Lib.alloc_old w1 _ b hlt]
    exact hbk
  have d0 : w2.cell? ⟨b, 0, none⟩ = some (.pointer (some ⟨b, 0, none⟩)) := by rw [Lib.cell_of_heap hb2]; rfl
  have d1 : w2.cell? ⟨b, 1, none⟩ = some v := by rw [Lib.cell_of_heap hb2]; rfl
  have f1 : w2.frozen? ⟨b, 1, none⟩ = false := Lib.frozen_of_heap hb2 1
  obtain ⟨g, cap, rfl⟩ : ∃ g cap, v' = .slice (some ⟨g, 0, none⟩) (bs.length + 1) cap := by
    rcases hown'.2 with ⟨_, h0⟩ | ⟨g, cap, cur, hv, _⟩
    · omega
    · exact ⟨g, cap, hv⟩
  go_wp2
  go_ret
  refine ⟨rfl, ?_, ?_⟩
  · exact Lib.BuilderAt.put (T := 67) (e := 5) hB hb2 (bs' := bs ++ [.int .u8 c]) (by simpa using hown') (by decide)
  · exact ((hb1.alloc (by have := hb1.size; omega) _).grown hgrow (by have := hb1.size; simp; omega) (fun k hk => (hown.lt k hk).1)).setCell (p := ⟨b, 1, none⟩) hB _
end Go.Proofs.Ytnlekganlliikaa.X
-- part XGives
namespace Go.Proofs.Ytnlekganlliikaa.X
open Go.RowKit Go.Proofs.YtnlekganlliikaaW.PrintWords Go.Proofs.YtnlekganlliikaaW.PrintLast Go.Proofs.YtnlekganlliikaaW.PrintMore
set_option linter.unusedVariables false
set_option linter.unusedSimpArgs false
section
variable {α β : Type} {f g : Nat → Option α} {c : Nat → Option β} {r r' : α} {t : β}
/-- With rounds enough it tells r. -/
def Gives (f : Nat → Option α) (r : α) : Prop := ∃ K, ∀ k, K ≤ k → f k = some r
theorem Gives.pure (h : ∀ k, f k = some r) : Gives f r := ⟨0, fun k _ => h k⟩
theorem Gives.of (h : ∀ k, f (k + 1) = some r) : Gives f r := ⟨1, fun k hk => by obtain ⟨j, rfl⟩ : ∃ j, k = j + 1 := ⟨k - 1, by omega⟩; exact h j⟩
theorem Gives.step (hg : Gives g r) (h : ∀ k, f (k + 1) = g k) : Gives f r := by
  obtain ⟨K, hK⟩ := hg
  exact ⟨K + 1, fun k hk => by obtain ⟨j, rfl⟩ : ∃ j, k = j + 1 := ⟨k - 1, by omega⟩; rw [h j]; exact hK j (by omega)⟩
theorem Gives.same (hg : Gives g r) (h : ∀ k, f k = g k) : Gives f r := by
  obtain ⟨K, hK⟩ := hg
  exact ⟨K, fun k hk => by rw [h k]; exact hK k hk⟩
theorem Gives.call (hc : Gives c t) (hg : Gives g r) (h : ∀ k, c k = some t → f (k + 1) = g k) : Gives f r := by
  obtain ⟨K, hK⟩ := hg
  obtain ⟨C, hC⟩ := hc
  exact ⟨K + C + 1, fun k hk => by obtain ⟨j, rfl⟩ : ∃ j, k = j + 1 := ⟨k - 1, by omega⟩; rw [h j (hC j (by omega))]; exact hK j (by omega)⟩
theorem Gives.call0 (hc : Gives c t) (hg : Gives g r) (h : ∀ k, c k = some t → f k = g k) : Gives f r := by
  obtain ⟨K, hK⟩ := hg
  obtain ⟨C, hC⟩ := hc
  exact ⟨K + C, fun k hk => by rw [h k (hC k (by omega))]; exact hK k (by omega)⟩
theorem Gives.last (hc : Gives c t) (h : ∀ k, c k = some t → f (k + 1) = some r) : Gives f r := by
  obtain ⟨C, hC⟩ := hc
  exact ⟨C + 1, fun k hk => by obtain ⟨j, rfl⟩ : ∃ j, k = j + 1 := ⟨k - 1, by omega⟩; exact h j (hC j (by omega))⟩
theorem Gives.last0 (hc : Gives c t) (h : ∀ k, c k = some t → f k = some r) : Gives f r := by
  obtain ⟨C, hC⟩ := hc
  exact ⟨C, fun k hk => h k (hC k hk)⟩
theorem Gives.eq (h : Gives f r) (e : r = r') : Gives f r' := e ▸ h
end
theorem gw {x : Int} (h : -9223372036854775808 ≤ x) (h2 : x < 9223372036854775808) : wrap64 x = x := by
  unfold wrap64
  omega
theorem gw1 {i : Nat} (h : i < 4611686018427387904) : wrap64 ((i : Int) + 1) = ((i + 1 : Nat) : Int) := by
  rw [gw (by omega) (by omega)]; omega
theorem getN {α : Type} {d : α} {L : List α} {i : Nat} (h : i < L.length) : L.getD (i : Int).toNat d = L[i] := by
  simp [h]
theorem rdOfN {α : Type} {d : α} {L : List α} {i : Nat} (h : i < L.length) : rdOf d L (i : Int) = L[i] := by
  simp [rdOf, h]
theorem btN {s : ByteArray} {i : Nat} (h : i < s.size) : bt s (i : Int) = ((s.data.toList[i]'(by simpa using h)).toNat : Int) := by
  simp [bt, h]; rfl
theorem sizeLen (s : ByteArray) : s.size = s.data.toList.length := by simp
theorem dropCons {α : Type} {l : List α} {i : Nat} (h : i < l.length) : l.drop i = l[i] :: l.drop (i + 1) := List.drop_eq_getElem_cons h
end Go.Proofs.Ytnlekganlliikaa.X
-- part XConcat
namespace Go.Proofs.Ytnlekganlliikaa.X
open Go.RowKit Go.Proofs.YtnlekganlliikaaW.PrintWords Go.Proofs.YtnlekganlliikaaW.PrintLast Go.Proofs.YtnlekganlliikaaW.PrintMore
set_option linter.unusedVariables false
set_option linter.unusedSimpArgs false
abbrev KS : Kd (List ByteArray) := Kd.slice 9 Kd.string
set_option maxRecDepth 100000 in
set_option maxHeartbeats 2000000 in
theorem grow_lists (w0 w : World) (n : Nat) (hn : n ≤ 1000000) (hw : Below w0.heap.size w0 w) :
    Calls Try.prog 69 #[.slice none 0 0, .int .i64 (n : Int)] w fun e w' => ∃ v, e = .returned v ∧ Aside0 ((heldK w0 KS).R 34 w' w.heap.size (fun _ => True) v []) ∧ Aside0 (Below w.heap.size w w') := by
  by_cases h0 : n = 0
  · subst h0
    go_enter Try.func69, Try.ntmps69
    go_wp2
    go_ret
    exact ⟨_, rfl, ⟨Kd.R_nil _ _ _ _ _⟩, ⟨Below.refl _ _⟩⟩
  · have d0 : decide ((n : Int) < 0) = false := decide_eq_false (by omega)
    have d1 : decide (0 < (n : Int)) = true := decide_eq_true (by omega)
    have d2 : decide (0 < n) = true := decide_eq_true (by omega)
    go_enter Try.func69, Try.ntmps69
    go_wp2_with (first
      | (at_builtin; refine Kd.R_append_zeros (heldK w0 KS) (w0 := w) w.heap.size rfl (.tmp 20) (.tmp 21) 22 3 34 (.slice none 0 0) 24 rfl Try.underlying22 Try.underlying3 info34 rfl Nat.zero_lt_one (by decide) (.slice none 0 0) [] [] (kx := .i64) (n : Int) (fun _ => True) rfl rfl (strs_nil _) (fun _ _ => trivial) (Kd.R_nil _ _ _ _ _) (by omega) (Below.refl _ _) (Nat.le_refl _) (by simp; omega) ?_; intro v1 w1 ho1 hb1 hg1 hat1; obtain ⟨A1, c1, hv1⟩ := Kd.R_slice ho1; subst hv1; have HO1 := Aside0.mk (Kd.R_take ho1 (Nat.zero_le _)); have HB1 := Aside0.mk hb1; have hlen : ([] ++ List.replicate (n : Int).toNat ([] : List ByteArray)).length = n := (by simp); rw [hlen]; clear ho1 hb1 hg1 hat1 hlen))
    go_ret
    exact ⟨_, rfl, ⟨by simpa using HO1.out⟩, HB1⟩
set_option maxRecDepth 100000 in
set_option maxHeartbeats 4000000 in
theorem concat_lists (A : Option Addr) (c : Nat) (L : List (List (List ByteArray))) (w : World) (hC : Kd.C (Kd.slice 34 KS) w A L.length L) (hc : L.length ≤ c) (hL : L.length ≤ 1000) (hl : L.flatten.length ≤ 1000000) :
    Calls Try.prog 43 #[.slice A L.length c] w fun e w' => ∃ v, e = .returned v ∧ Aside0 ((heldK w KS).R 34 w' w.heap.size (fun _ => True) v L.flatten) ∧ Aside0 (Below w.heap.size w w') := by
  have HC := Aside0.mk hC
  have HL := Aside0.mk hl
  have hsum : ∀ k, ((L.take k).map List.length).sum ≤ L.flatten.length := fun k => by
    have e : L.flatten.length = ((L.take k).map List.length).sum + ((L.drop k).map List.length).sum := by
      rw [List.length_flatten, ← List.sum_append, ← List.map_append, List.take_append_drop]
    omega
  have HSUM := Aside0.mk hsum
  clear hC hl hsum
  go_enter Try.func43, Try.ntmps43
  go_wp2_with fail
  go_loop [3, 5, 11] (fun s _ i => ∃ (k : Nat), k ≤ L.length ∧ i = .int .i64 k ∧ s = .int .i64 (((L.take k).map List.length).sum : Nat)) (fun _ _ i => L.length - (intOf i).toNat)
  case atStart => exact ⟨0, Nat.zero_le _, rfl, rfl⟩
  case round =>
    obtain ⟨k, hk, rfl, rfl⟩ := hrel
    obtain ⟨s, hs⟩ : ∃ s, ((L.take k).map List.length).sum = s := ⟨_, rfl⟩
    have hsb : s ≤ 1000000 := by have := HSUM.out k; have := HL.out; omega
    rw [hs]
    have HS := Aside0.mk hs
    clear hs
    by_cases hlt : k < L.length
    · obtain ⟨ad, A5, c5, rfl, hrow, hc5, hC5⟩ := at_slice HC.out k hlt
      obtain ⟨l, hle⟩ : ∃ l, L.getD k [] = l := ⟨_, rfl⟩
      have htk : L.take (k + 1) = L.take k ++ [l] := by rw [← hle, getD_get hlt, List.take_append_getElem hlt]
      rw [hle] at hrow
      have hs2 : ((L.take (k + 1)).map List.length).sum = s + l.length := by
        rw [htk, List.map_append, List.sum_append, HS.out]; simp
      have hb2 : s + l.length ≤ 1000000 := by have := HSUM.out (k + 1); have := HL.out; omega
      have HS2 := Aside0.mk hs2
      obtain ⟨n, hn⟩ : ∃ n, l.length = n := ⟨_, rfl⟩
      rw [hn] at hrow hb2 HS2
      have d0 : decide ((s : Int) + (n : Int) < 0) = false := decide_eq_false (by omega)
      clear hle htk hs2 hC5 hn
      go_wp2
      go_round
      case measure => simp [intOf]; omega
      case rel => exact ⟨k + 1, by omega, by go_num, by rw [HS2.out]; go_num⟩
    · have hk' : k = L.length := by omega
      subst hk'
      rw [List.take_length, ← List.length_flatten] at HS
      have hs' := HS.out
      subst hs'
      clear HS
      obtain ⟨n, hn⟩ : ∃ n, L.flatten.length = n := ⟨_, rfl⟩
      rw [hn] at hsb HL ⊢
      have HN := Aside0.mk hn
      clear hn
      go_wp2_with fail
      refine (grow_lists w _ n hsb (Below.refl _ _)).mono ?_
      rintro e w1 ⟨v1, rfl, HR1, HB1⟩
      obtain ⟨A1, c1, rfl⟩ := Kd.R_slice HR1.out
      go_wp2_with fail
      go_loopw [6, 8, 27] (fun v0 _ i wr => ∃ (k : Nat) (Ao : Option Addr) (co m : Nat), v0 = .slice Ao m co ∧ k ≤ L.length ∧ i = .int .i64 k ∧ Aside0 ((heldK w KS).R 34 wr w.heap.size (fun _ => True) (.slice Ao m co) (L.take k).flatten) ∧ Aside0 (Below w.heap.size w wr)) (fun _ _ i _ => L.length - (intOf i).toNat)
      case atStart => exact ⟨0, _, _, _, rfl, Nat.zero_le _, rfl, HR1, HB1⟩
      case round =>
        obtain ⟨k, Ao, co, m, rfl, hk, rfl, HR, HB⟩ := hrel
        by_cases hlt : k < L.length
        · obtain ⟨ad, A5, c5, rfl, hrow, hc5, hC5⟩ := at_slice HC.out k hlt
          obtain ⟨l, hle⟩ : ∃ l, L.getD k [] = l := ⟨_, rfl⟩
          have htk : (L.take (k + 1)).flatten = (L.take k).flatten ++ l := by rw [← hle, getD_get hlt, ← List.take_append_getElem hlt, List.flatten_append]; simp
          have HTK := Aside0.mk htk
          rw [hle] at hrow hC5
          replace hrow := (HB.out.cell (World.block_lt_of_cell? w _ hrow)).trans hrow
          have HC5 : Aside0 ((heldK w KS).C wr A5 l.length l) := ⟨held_C hC5 HB.out⟩
          have hlim : (L.take k).flatten.length + l.length ≤ 1000000 := by
            have h1 := HSUM.out (k + 1)
            have h2 := HL.out
            have h3 := congrArg List.length htk
            rw [List.length_append, List.length_flatten] at h3
            rw [HN.out] at h1
            omega
          have HLIM := Aside0.mk hlim
          clear hle htk hC5 hlim
          go_wp2_with (first
            | (at_builtin; refine Kd.R_append_rows (heldK w KS) (Rr := (heldK w KS).K wr) (w0 := w) w.heap.size rfl (.tmp 31) (.tmp 32) 22 34 (.slice none 0 0) 24 rfl Try.underlying22 info34 rfl Nat.zero_lt_one (by decide) (.slice Ao m co) (L.take k).flatten l A5 l.length c5 (fun _ => True) (fun _ => False) rfl rfl HR.out HC5.out (fun _ _ h => h) (fun _ h => h.elim) (fun _ _ => trivial) HB.out HB.out.size (by have := HLIM.out; omega) ?_; intro v2 w2 ho2 hb2 hg2 hat2; obtain ⟨A2, c2, hv2⟩ := Kd.R_slice ho2; subst hv2; generalize ((L.take k).flatten ++ l).length = m2 at ho2 ⊢; have HO2 := Aside0.mk ho2; have HB2 := Aside0.mk hb2; clear ho2 hb2 hg2 hat2))
          go_roundw
          case measure => simp [intOf]; omega
          case rel => exact ⟨k + 1, _, _, _, rfl, by omega, by go_num, by rw [HTK.out]; exact HO2, HB2⟩
        · have hk' : k = L.length := by omega
          subst hk'
          rw [List.take_length] at HR
          go_wp2
          go_ret
          exact ⟨_, rfl, HR, HB⟩
end Go.Proofs.Ytnlekganlliikaa.X
-- part XRef02
namespace Go.Proofs.Ytnlekganlliikaa.X
open Go.RowKit Go.Proofs.YtnlekganlliikaaW.PrintWords Go.Proofs.YtnlekganlliikaaW.PrintLast Go.Proofs.YtnlekganlliikaaW.PrintMore
set_option linter.unusedVariables false
set_option linter.unusedSimpArgs false
/-- So many texts, of 100 bytes, at most. -/
def fewB (l : List ByteArray) (n : Nat) : Bool := decide (l.length ≤ n ∧ ∀ s ∈ l, s.size ≤ 100)
theorem ref_few01_l0 (l : List ByteArray) (n : Nat) (hn : n ≤ 1000000) : ∀ (r i k : Nat), i + r = n + 1 → 2 * r + 2 ≤ k → sennitref01_Few.l0 k l (n : Int) (i : Int) = some (decide (l.length ≤ n ∧ ∀ s ∈ l.drop i, s.size ≤ 100))
  | 0, i, k + 2, hi, hk => by
    have e : ((l.length : Int) ≤ (n : Int)) = (l.length ≤ n) := by simp
    rw [sennitref01_Few.l0]
    by_cases h : (i : Int) < l.length
    · rw [if_pos h, decide_eq_false (show ¬ ((i : Int) ≤ (n : Int)) by omega), sennitref01_Few.j1, if_neg (by decide), decide_eq_false (by omega), decide_eq_false (by omega)]
    · rw [if_neg h, sennitref01_Few.j1, if_neg (by decide), List.drop_of_length_le (by omega)]
      simp
  | r + 1, i, k + 2, hi, hk => by
    rw [sennitref01_Few.l0]
    by_cases h : (i : Int) < l.length
    · have hd : l.drop i = l[i] :: l.drop (i + 1) := List.drop_eq_getElem_cons (by omega)
      rw [if_pos h, decide_eq_true (show ((i : Int) ≤ (n : Int)) by omega), sennitref01_Few.j1, if_pos rfl, if_pos (by omega), if_pos h, rdOfN (by omega), hd]
      by_cases h2 : 100 < l[i].size
      · rw [if_pos (by omega), decide_eq_false]
        rintro ⟨_, h3⟩
        have := h3 l[i] List.mem_cons_self
        omega
      · rw [if_neg (by omega), gw1 (by omega)]
        have := ref_few01_l0 l n hn r (i + 1) k (by omega) (by omega)
        rw [this]
        simp only [List.forall_mem_cons, show l[i].size ≤ 100 from by omega, true_and]
    · rw [if_neg h, sennitref01_Few.j1, if_neg (by decide), List.drop_of_length_le (by omega)]
      simp
theorem ref_few01 (l : List ByteArray) (n : Nat) (hn : n ≤ 1000000) : Gives (fun k => sennitref01_Few.f k l (n : Int)) (fewB l n) :=
  ⟨2 * (n + 1) + 2, fun k hk => by
    have := ref_few01_l0 l n hn (n + 1) 0 k (by omega) hk
    simpa [sennitref01_Few.f, fewB] using this⟩

end Go.Proofs.Ytnlekganlliikaa.X
-- part XLcs1
namespace Go.Proofs.Ytnlekganlliikaa.X
open Go.RowKit Go.Proofs.YtnlekganlliikaaW.PrintWords Go.Proofs.YtnlekganlliikaaW.PrintLast Go.Proofs.YtnlekganlliikaaW.PrintMore
set_option linter.unusedVariables false
set_option linter.unusedSimpArgs false
theorem C_none {α : Type} {d : Kd α} {w : World} {n : Nat} {xs : List α} (h : Kd.C d w none n xs) : n = 0 ∧ xs = [] := by
  have h1 := h.1
  rcases Nat.eq_zero_or_pos n with h0 | h0
  · subst h0
    exact ⟨rfl, List.length_eq_zero_iff.1 h1⟩
  · obtain ⟨ad, e, _⟩ := h.2.2 h0
    cases e

set_option maxHeartbeats 4000000 in
set_option maxRecDepth 100000 in
theorem slices_Clone_int.calls (A0 : Option Addr) (c0 : Nat) (l0 : List Int) (w : World) (hr0 : Kd.C (Kd.int .i64) w A0 l0.length l0) (hc0 : l0.length ≤ c0) (hb : l0.length < 17592186044416) :
    Calls Try.prog 56 #[.slice A0 l0.length c0] w fun e w' => ∃ v0_ : Value, e = .returned v0_ ∧ Kd.R (Kd.int .i64) 3 w' w.heap.size (fun _ => True) v0_ l0 ∧ Below w.heap.size w w' := by
  have q22 : ∀ (w : World) (a : Option Addr) (n c n' c' : Nat), (binOp .eql 49 (.slice a n c) (.slice none n' c')).run Try.prog w = .ok (.bool a.isNone) w := fun w a n c n' c' => Lib.run_eql_slice_nil w _ _ a n c n' c' Try.underlying49
  cases A0 with
  | none =>
    obtain ⟨h0, rfl⟩ := C_none hr0
    clear hr0 hb h0
    go_enter Try.func56, Try.ntmps56
    go_wp2
    go_ret
    exact ⟨_, rfl, Kd.R_nil _ _ _ _ _, Below.refl _ _⟩
  | some ad =>
    have HR0 := Aside0.mk hr0
    have HB := Aside0.mk (Below.refl w.heap.size w)
    clear hr0 hc0
    have Hb := Lib.hid hb
    clear hb
    go_enter Try.func56, Try.ntmps56
    go_wp2_with (first | ((with_reducible refine gate_dst (N := 5) rfl ?_); refine Kd.R_lit (Kd.int .i64) _ 3 ?hg (N := 5) ?hd (xs := ([] : List Int)) (inner := []) (ok := fun _ => True) (okp := fun _ => True) ?hr ?hp (fun _ hk => hk) trivial (Below.refl _ _) (Nat.le_refl _) (by simp) ?_; (case hd => rfl); (case hg => rfl); (case hr => first | (go_simp; done) | (go_simp; rfl)); (case hp => exact Reps.none _ _); intro v1 w1 ho_ hb_ hg_ hnew_; have n0_ := Aside0.mk (Kd.R_lower ho_ (below_size (by repeat (first | (with_reducible first | exact HB.out | apply below_alloc | apply pw_below_drewN | apply below_drew1) | exact HB.out)))); have n1_ := Aside0.mk (below_step (by repeat (first | (with_reducible first | exact HB.out | apply below_alloc | apply pw_below_drewN | apply below_drew1) | exact HB.out)) hb_); clear HB; have HO1 := n0_; have HB := n1_; clear n0_ n1_; clear hb_ ho_ hg_ hnew_) | ((with_reducible refine gate_builtin (b := .append) (xs := #[.tmp 5, .tmp 6]) rfl ?_); at_builtin; refine Kd.R_append_rows (Kd.int .i64) (w0 := w) w.heap.size rfl (.tmp 5) (.tmp 6) 49 3 (.int .i64 0) 8 rfl Try.underlying49 info3 rfl (by decide) (by omega) v1 [] l0 _ _ _ (fun _ => True) (fun _ => False) rfl rfl ?aO ?aR (fun _ _ h => h) (fun _ h => h.elim) ?aF ?aB ?aS ?aL ?_; (case aR => repeat (first | exact (Kd.C_below HR0.out HB.out) | (with_reducible refine Kd.C_alloc ?_ _) | (with_reducible refine Kd.C_drewN ?_ _) | (with_reducible refine Kd.C_drew ?_))); (case aB => exact (by repeat (first | (with_reducible first | exact HB.out | apply below_alloc | apply pw_below_drewN | apply below_drew1) | exact HB.out))); (case aF => exact (fun _ _ => trivial)); (case aO => exact (by (with_reducible repeat (first | apply Kd.R_alloc | apply Kd.R_drewN | apply Kd.R_drew)); exact HO1.out)); (case aS => exact (below_size (by repeat (first | (with_reducible first | exact HB.out | apply below_alloc | apply pw_below_drewN | apply below_drew1) | exact HB.out)))); (case aL => (have := Hb.out; simp; omega)); intro v2 w2 ho_ hb_ hg_ hat_; have n0_ := Aside0.mk (hb_); have n1_ := Aside0.mk (ho_); clear HB; clear HO1; have HB := n0_; have HO2 := n1_; clear n0_ n1_; clear ho_ hb_ hg_ hat_))
    go_ret
    exact ⟨_, rfl, HO2.out, HB.out⟩
end Go.Proofs.Ytnlekganlliikaa.X
-- part XLcs2
namespace Go.Proofs.Ytnlekganlliikaa.X
open Go.RowKit Go.Proofs.YtnlekganlliikaaW.PrintWords Go.Proofs.YtnlekganlliikaaW.PrintLast Go.Proofs.YtnlekganlliikaaW.PrintMore
set_option linter.unusedVariables false
set_option linter.unusedSimpArgs false
/-- A pair's block: the lists, the Once (done, its lock), the steps, how many. -/
def pairCells (sa sb st : Value) (d long : Int) : Array Value := #[sa, sb, .int .u32 d, .int .i32 0, .int .u32 0, st, .int .i64 long]
/-- g is the block of a pair of the lists a and b, made since base; reckoned or not. -/
def IsPair (W : World) (base g : Nat) (a b : List Int) : Prop :=
  base ≤ g ∧ ∃ sa sb st d long, W.heap[g]? = some (.cells (pairCells sa sb st d long) 103 (0, 0)) ∧ Kd.R (Kd.int .i64) 3 W base (fun k => k ≠ g) sa a ∧ Kd.R (Kd.int .i64) 3 W base (fun k => k ≠ g) sb b ∧ a.length ≤ 2000 ∧ b.length ≤ 2000 ∧
    ((d = 0 ∧ st = .slice none 0 0 ∧ long = 0) ∨ (d = 1 ∧ Kd.R (Kd.int .u8) 5 W base (fun k => k ≠ g) st (stepsOf a b) ∧ long = lcsL a b))

set_option maxHeartbeats 4000000 in
set_option maxRecDepth 100000 in
theorem lcs_New_long (A0 : Option Addr) (c0 : Nat) (l0 : List Int) (A1 : Option Addr) (c1 : Nat) (l1 : List Int) (w : World) (h0 : l0.length ≤ 9223372036854775807) (h1 : l1.length ≤ 9223372036854775807) (hl : 2000 < l0.length ∨ 2000 < l1.length) :
    Calls Try.prog 31 #[.slice A0 l0.length c0, .slice A1 l1.length c1] w fun e w' => e = .returned (.tuple #[.pointer none, .int .i64 4]) ∧ w' = w := by
  by_cases h : 2000 < l0.length
  · have c1 : decide ((2000 : Int) < (l0.length : Int)) = true := decide_eq_true (by omega)
    have c2 : decide (2000 < l0.length) = true := decide_eq_true h
    clear hl h
    go_enter Try.func31, Try.ntmps31
    go_wp2
    go_ret2
    exact ⟨rfl, rfl⟩
  · have c1 : decide ((2000 : Int) < (l0.length : Int)) = false := decide_eq_false (by omega)
    have c2 : decide (2000 < l0.length) = false := decide_eq_false h
    have c3 : decide ((2000 : Int) < (l1.length : Int)) = true := decide_eq_true (by omega)
    have c4 : decide (2000 < l1.length) = true := decide_eq_true (by omega)
    clear hl h
    go_enter Try.func31, Try.ntmps31
    go_wp2
    go_ret2
    exact ⟨rfl, rfl⟩

set_option maxHeartbeats 4000000 in
set_option maxRecDepth 100000 in
theorem lcs_New_ok (A0 : Option Addr) (c0 : Nat) (l0 : List Int) (A1 : Option Addr) (c1 : Nat) (l1 : List Int) (w : World) (hr0 : Kd.C (Kd.int .i64) w A0 l0.length l0) (hc0 : l0.length ≤ c0) (hr1 : Kd.C (Kd.int .i64) w A1 l1.length l1) (hc1 : l1.length ≤ c1) (h0 : l0.length ≤ 2000) (h1 : l1.length ≤ 2000) :
    Calls Try.prog 31 #[.slice A0 l0.length c0, .slice A1 l1.length c1] w fun e w' => ∃ g : Nat, e = .returned (.tuple #[.pointer (some ⟨g, 0, none⟩), .int .i64 0]) ∧ IsPair w' w.heap.size g l0 l1 ∧ Below w.heap.size w w' := by
  have HR0 := Aside0.mk hr0
  have HC0 := Aside0.mk hc0
  have HR1 := Aside0.mk hr1
  have HC1 := Aside0.mk hc1
  clear hr0 hc0 hr1 hc1
  have d1 : decide ((2000 : Int) < (l0.length : Int)) = false := decide_eq_false (by omega)
  have d2 : decide (2000 < l0.length) = false := decide_eq_false (by omega)
  have d3 : decide ((2000 : Int) < (l1.length : Int)) = false := decide_eq_false (by omega)
  have d4 : decide (2000 < l1.length) = false := decide_eq_false (by omega)
  go_enter Try.func31, Try.ntmps31
  go_wp2_with fail
  refine (slices_Clone_int.calls A0 c0 l0 _ HR0.out HC0.out (by omega)).mono ?_
  rintro e w1 ⟨v1, rfl, ho1, hb1⟩
  obtain ⟨Av1, cv1, rfl⟩ := Kd.R_slice ho1
  have HO1 := Aside0.mk ho1
  have HB1 := Aside0.mk hb1
  clear ho1 hb1
  go_wp2_with fail
  refine (slices_Clone_int.calls A1 c1 l1 _ (Kd.C_below HR1.out HB1.out) HC1.out (by omega)).mono ?_
  rintro e w2 ⟨v2, rfl, ho2, hb2⟩
  obtain ⟨Av2, cv2, rfl⟩ := Kd.R_slice ho2
  have HO2 := Aside0.mk ho2
  have HB2 := Aside0.mk hb2
  clear ho2 hb2
  go_wp2
  go_ret2
  have hB : Below w.heap.size w w2 := below_step HB1.out HB2.out
  have ho1 := Kd.R_mono (Kd.R_bound (Kd.R_below HO1.out HB2.out)) (ok' := fun k => k ≠ w2.heap.size) (fun k hk => by have := hk.2.2.1; omega)
  have ho2 := Kd.R_mono (Kd.R_bound (Kd.R_lower HO2.out HB1.out.size)) (ok' := fun k => k ≠ w2.heap.size) (fun k hk => by have := hk.2.2.1; omega)
  refine ⟨w2.heap.size, rfl, ⟨hB.size, _, _, _, _, _, blk_new _ _, Kd.R_alloc ho1 _, Kd.R_alloc ho2 _, h0, h1, .inl ⟨rfl, rfl, rfl⟩⟩, below_alloc hB _⟩
end Go.Proofs.Ytnlekganlliikaa.X
-- part XGap1
namespace Go.Proofs.Ytnlekganlliikaa.X
open Go.RowKit Go.Proofs.YtnlekganlliikaaW.PrintWords Go.Proofs.YtnlekganlliikaaW.PrintLast Go.Proofs.YtnlekganlliikaaW.PrintMore
set_option linter.unusedVariables false
set_option linter.unusedSimpArgs false
abbrev RowG := List Int × ByteArray
abbrev kM : Kd (List Int) := Kd.arr 16 (Kd.int .u8) (by decide)
abbrev kRow : Kd RowG := Kd.pair kM Kd.string
def rowCells (x : RowG) : List Value := x.1.map (Value.int .u8) ++ [.string x.2]
theorem kRow_K {w : World} {x : RowG} {cs : List Value} : kRow.K w x cs ↔ x.1.length = 16 ∧ cs = rowCells x := by
  constructor
  · rintro ⟨c0, c1, rfl, h0, h1⟩
    obtain ⟨h2, h3⟩ := Kd.arr_cells (enc := Value.int .u8) (h1 := fun _ => rfl) (hs := by decide) h0
    exact ⟨h2, by rw [h3, show c1 = _ from h1]; rfl⟩
  · rintro ⟨h1, rfl⟩
    exact ⟨_, _, rfl, (Kd.arr 16 (Kd.int .u8) (by decide)).K_of_M (base := 0) (ok := fun _ => True) (Kd.arr_of_cells (enc := Value.int .u8) (h1 := fun _ => rfl) (hs := by decide) h1), rfl⟩
theorem kRow_M {w : World} {base : Nat} {ok : Nat → Prop} {x : RowG} (h : x.1.length = 16) : kRow.M w base ok x (rowCells x) :=
  ⟨_, _, rfl, Kd.arr_of_cells (enc := Value.int .u8) (h1 := fun _ => rfl) (hs := by decide) h, rfl⟩
theorem rowCells_len {x : RowG} (h : x.1.length = 16) : (rowCells x).length = 17 := by simp [rowCells, h]
theorem rowCells_text {x : RowG} (h : x.1.length = 16) : (rowCells x)[16]? = some (.string x.2) := by
  rw [rowCells, List.getElem?_append_right (by simp [h])]; simp [h]
theorem rowCells_one {x : RowG} : (rowCells x).toArray.all (·.oneCell') = true := by
  simp [rowCells, Value.oneCell']
theorem add0_ (g o : Nat) : (⟨g, 0, none⟩ : Addr).add o = ⟨g, o, none⟩ := by unfold Addr.add; split <;> simp_all
/-- An element that is a row: its cells. -/
theorem at_row {w : World} {g : Nat} {n : Nat} {rs : List RowG} (h : kRow.C w (some ⟨g, 0, none⟩) n rs) (i : Nat) (hi : i < n) :
    (rs.getD i ([], ByteArray.empty)).1.length = 16 ∧ w.rangeAt g (i * 17) (rowCells (rs.getD i ([], ByteArray.empty))) := by
  obtain ⟨ad, c, e1, e2, e3, e4⟩ := ReadsRow.get_ h ([], ByteArray.empty) (i : Int) (by omega) (by omega)
  cases e1
  rw [Int.toNat_natCast] at e3 e4
  obtain ⟨h1, rfl⟩ := kRow_K.1 e3
  refine ⟨h1, fun j v hj => ?_⟩
  have := e4 j v hj
  rwa [show kRow.sz = 17 from rfl, add0_] at this
theorem range_below {w W : World} {b : Nat} {o : Nat} {cs : List Value} (h : w.rangeAt b o cs) (hb : Below w.heap.size w W) : W.rangeAt b o cs := fun j v hj => (hb.cell (World.block_lt_of_cell? w _ (h j v hj))).trans (h j v hj)
/-- A whole struct into the block that was made last. -/
theorem wpList_store_new {P : Program} {ops : Array Oper} {rest : List Oper} {o : Oper} {a : Act} {w : World} {Q : Exit → Act → World → Prop} (hgd : o.guard = none) (t : TypeId) (p : Tmp) (x : Operand) (ho : o.op = .store t (.tmp p) x) (hN : o.dst = none)
    {b : Nat} (hb : b = w.heap.size) (hp : a.eval (.tmp p) = .pointer (some ⟨b, 0, none⟩)) {c c' : Array Value} (hx : a.eval x = .agg c') (hi : (P.info? t).map (·.size) = some c'.size) (hs : c.size = c'.size) (h1 : c'.all (·.oneCell') = true)
    (h : wpList P ops Q rest a (w.alloc (.cells c' t))) : wpList P ops Q (o :: rest) a (w.alloc (.cells c t)) := by
  subst hb
  refine store_event hgd ho hN ?_ (fun w' hw => by rw [hw]; exact h)
  simp only [execOp, ho, hp, hx, Sem.run_bind, run_storeAt_new w t c c' hi hs h1, Result.andThen_ok]
  rfl
/-- The rows that there are, behind a pointer. -/
def RowsIn (W : World) (B g : Nat) (rs : List RowG) (e : Int) : Prop :=
  ∃ v, W.heap[g]? = some (.cells #[v, .int .i64 e] 57 (0, 0)) ∧ B ≤ g ∧ Kd.R kRow 63 W B (fun _ => True) v rs
theorem kRow_form {W : World} {B : Nat} {v : Value} {rs : List RowG} (h : Kd.R kRow 63 W B (fun _ => True) v rs) (hp : 0 < rs.length) : ∃ g cap, v = .slice (some ⟨g, 0, none⟩) rs.length cap ∧ rs.length ≤ cap ∧ kRow.C W (some ⟨g, 0, none⟩) rs.length rs := by
  obtain ⟨g, cap, rfl, _⟩ := Kd.R_form h hp
  exact ⟨g, cap, rfl, (Kd.R_reads' h).2.1, (Kd.R_reads' h).2.2⟩

set_option maxRecDepth 100000 in
set_option maxHeartbeats 4000000 in
theorem rows_texts (g B : Nat) (rs : List RowG) (e : Int) (w : World) (h : RowsIn w B g rs e) (hn : rs.length ≤ 1000000) :
    Calls Try.prog 63 #[.pointer (some ⟨g, 0, none⟩)] w fun e w' => ∃ v, e = .returned v ∧ Aside0 (Kd.R Kd.string 9 w' w.heap.size (fun _ => True) v (rs.map (·.2))) ∧ Aside0 (Below w.heap.size w w') := by
  obtain ⟨v, hb, hg, hr⟩ := h
  obtain ⟨A, c, rfl, hc, hC⟩ := Kd.R_reads hr
  have c0 : w.cell? ⟨g, 0, none⟩ = some (.slice A rs.length c) := cell_blk hb rfl
  have HC := Aside0.mk hC
  have HRr := Aside0.mk hr
  have HB := Aside0.mk (Below.refl w.heap.size w)
  clear hb hr hC
  go_enter Try.func63, Try.ntmps63
  go_wp2_with fail
  go_loopw [3, 11] (fun o i wr => ∃ k : Nat, k ≤ rs.length ∧ i = .int .i64 k ∧ Aside0 (Kd.R Kd.string 9 wr w.heap.size (fun _ => True) o ((rs.take k).map (·.2))) ∧ Aside0 (Below w.heap.size w wr)) (fun _ i _ => rs.length - (intOf i).toNat)
  case atStart => exact ⟨0, Nat.zero_le _, rfl, ⟨Kd.R_nil _ _ _ _ _⟩, HB⟩
  case round =>
    obtain ⟨k, hk, rfl, HO, HBr⟩ := hrel
    by_cases hlt : k < rs.length
    · obtain ⟨gb, cap, hev, _⟩ := kRow_form HRr.out (by omega)
      injection hev with e1 e2 e3
      subst e1; subst e3
      clear e2
      obtain ⟨h16, hrg⟩ := at_row HC.out k hlt
      have hsn : (rs.take (k + 1)).map (·.2) = (rs.take k).map (·.2) ++ [(rs.getD k ([], ByteArray.empty)).2] := by
        rw [← List.take_append_getElem hlt, List.map_append]
        simp only [getD_get hlt]; rfl
      have HSN := Aside0.mk hsn
      clear hsn
      obtain ⟨x, hx⟩ : ∃ x, rs.getD k ([], ByteArray.empty) = x := ⟨_, rfl⟩
      rw [hx] at h16 hrg HSN
      have HRG := Aside0.mk (range_below hrg HBr.out)
      have hall := Aside0.mk (rowCells_one (x := x))
      have h16c := rowCells_text h16
      have h16d : (rowCells x).toArray[16]? = some (.string x.2) := by simpa using h16c
      have hsz := Aside0.mk (rowCells_len h16)
      clear hrg hx
      obtain ⟨Ao, co, rfl⟩ := Kd.R_slice HO.out
      have HZ : Aside0 (((rs.take k).map (·.2)).length = k) := ⟨by simp; omega⟩
      rw [HZ.out] at HO
      have h16l := Aside0.mk h16
      clear h16
      obtain ⟨C, hCe⟩ : ∃ C, rowCells x = C := ⟨_, rfl⟩
      rw [hCe] at HRG hall h16c hsz h16d
      clear hCe
      go_wp2_with (first | ((with_reducible refine gate_dst (N := 14) rfl ?_); refine wpList_load_mid rfl 63 _ rfl gb (k * 17) (by rfl) C _ HRG.out Try.underlying63 rfl (by rw [hsz.out]; kernel_rfl) ?_) | ((with_reducible refine gate_store (t := 63) (p := 5) rfl ?_); (refine wpList_store_new rfl 63 5 _ rfl rfl (b := wr.heap.size) rfl rfl (c' := C.toArray) rfl (by rw [List.size_toArray, hsz.out]; kernel_rfl) (by rw [show C.toArray.size = 17 from hsz.out]; rfl) hall.out ?_)) | (at_builtin; (refine Kd.R_append Kd.string (w0 := w) w.heap.size rfl (.tmp 15) (.tmp 18) 34 9 (.string ByteArray.empty) 16 rfl Try.underlying34 info9 rfl (by decide) (by decide) _ _ x.2 [.string x.2] (fun _ => True) (fun _ => False) rfl (congrArg (fun n => Value.slice (some ⟨n, 0, none⟩) 1 1) (show wr.heap.size + 1 = (wr.alloc (.cells C.toArray 63)).heap.size by simp)) rfl (fun _ h => h.elim) (fun _ _ => trivial) (Kd.R_alloc HO.out _) (HBr.out.alloc HBr.out.size _) (by have := HBr.out.size; simp; omega) (by rw [HZ.out]; omega) ?_; intro v3 w3 hr3 hb3 hg3 hat3; obtain ⟨A3, c3, hv3⟩ := Kd.R_slice hr3; subst hv3; have HR3 := Aside0.mk hr3; have HB3 := Aside0.mk hb3; clear hr3 hb3 hg3 hat3)))
      go_roundw
      case measure => simp [intOf]; omega
      case rel =>
        have hr3 := HR3.out
        have hz3 : ((rs.take k).map (·.2) ++ [x.2]).length = k + 1 := by rw [List.length_append, HZ.out]; rfl
        rw [hz3] at hr3
        refine ⟨k + 1, by omega, by go_num, ⟨?_⟩, HB3⟩
        rw [HSN.out]
        exact hr3
    · have hk' : k = rs.length := by omega
      subst hk'
      rw [List.take_length] at HO
      go_wp2
      go_ret
      exact ⟨_, rfl, HO, HBr⟩
end Go.Proofs.Ytnlekganlliikaa.X
-- part XGap2
namespace Go.Proofs.Ytnlekganlliikaa.X
open Go.RowKit Go.Proofs.YtnlekganlliikaaW.PrintWords Go.Proofs.YtnlekganlliikaaW.PrintLast Go.Proofs.YtnlekganlliikaaW.PrintMore
set_option linter.unusedVariables false
set_option linter.unusedSimpArgs false
theorem rowCells_get {x : RowG} {j : Nat} (h : j < x.1.length) : (rowCells x)[j]? = some (.int .u8 x.1[j]) := by
  rw [rowCells, List.getElem?_append_left (by simpa using h)]; simp [h]
theorem rowCells_set {x : RowG} {j : Nat} (h : j < x.1.length) (v : Int) : (rowCells x).toArray.setIfInBounds j (.int .u8 v) = (rowCells (x.1.set j v, x.2)).toArray := by
  simp only [rowCells, List.setIfInBounds_toArray]
  rw [List.set_append_left _ _ (by simpa using h), List.map_set]
def noMarks : List Int := List.replicate 16 0
theorem zeroRow_cell {col : Nat} (h : col < 16) (s : ByteArray) : (rowCells (noMarks, s)).toArray[col]? = some (.int .u8 0) := by
  have := rowCells_get (x := (noMarks, s)) (j := col) (by simpa [noMarks] using h)
  rw [List.getElem?_toArray, this]
  simp only [noMarks, List.getElem_replicate]
theorem info_row : (Try.prog.info? 63).map (fun i => (i.zero, i.size, i.bytes)) = some (some (.agg (rowCells (noMarks, ByteArray.empty)).toArray), 17, 32) := by kernel_rfl
theorem size_row {x : RowG} (h : x.1.length = 16) : (Try.prog.info? 63).map (·.size) = some (rowCells x).toArray.size := by
  have e : (Try.prog.info? 63).map (·.size) = some 17 := by kernel_rfl
  rw [e]
  exact congrArg some (rowCells_len h).symm
/-- A row with one mark. -/
def oneRow (col : Nat) (s : ByteArray) : RowG := (noMarks.set col 1, s)
/-- The boxes that 'fresh' has: how far it is, the list, the column, the rows that come. -/
def ComeI (w0 W : World) (B Ba Bl Bc Bo : Nat) (Al : Option Addr) (cl : Nat) (list : List ByteArray) (col at_ : Nat) (rs : List RowG) (v : Value) : Prop :=
  W.heap[Ba]? = some (.cells #[.int .i64 (at_ : Int)] 3 (0, 0)) ∧ W.heap[Bl]? = some (.cells #[.slice Al list.length cl] 34 (0, 0)) ∧ W.heap[Bc]? = some (.cells #[.int .i64 (col : Int)] 3 (0, 0)) ∧
    (W.heap[Bo]? = some (.cells #[v] 55 (0, 0)) ∧ Kd.R kRow 63 W B (fun _ => True) v rs) ∧ Below B w0 W ∧ B ≤ Ba ∧ B ≤ Bo ∧ Ba ≠ Bc
theorem own_eq (A : Option Addr) (n c n' c' : Nat) : (Value.slice A n c).ownBlock = (Value.slice A n' c').ownBlock := by cases A <;> rfl
/-- What 'fresh' leaves: all but its boxes, and the rows that come. -/
def KeepsF (Ba Bo : Nat) (W W' : World) (v v' : Value) : Prop :=
  W.heap.size ≤ W'.heap.size ∧ (∀ k, k < W.heap.size → k ≠ Ba → k ≠ Bo → some k ≠ v.ownBlock → W'.heap[k]? = W.heap[k]?) ∧ (v'.ownBlock = v.ownBlock ∨ ∃ b, v'.ownBlock = some b ∧ W.heap.size ≤ b)
theorem KeepsF.refl (Ba Bo : Nat) (W : World) (v : Value) : KeepsF Ba Bo W W v v := ⟨Nat.le_refl _, fun _ _ _ _ _ => rfl, .inl rfl⟩
theorem KeepsF.trans {Ba Bo : Nat} {W W1 W2 : World} {v v1 v2 : Value} (h : KeepsF Ba Bo W W1 v v1) (k : KeepsF Ba Bo W1 W2 v1 v2) : KeepsF Ba Bo W W2 v v2 := by
  refine ⟨Nat.le_trans h.1 k.1, fun i hi h1 h2 h3 => ?_, ?_⟩
  · refine (k.2.1 i (Nat.lt_of_lt_of_le hi h.1) h1 h2 (fun e => ?_)).trans (h.2.1 i hi h1 h2 h3)
    rcases h.2.2 with h4 | ⟨b, h4, h5⟩
    · exact h3 (e.trans h4)
    · rw [h4] at e; injection e with e; omega
  · rcases k.2.2 with h4 | ⟨b, h4, h5⟩
    · rcases h.2.2 with h6 | ⟨b, h6, h7⟩
      · exact .inl (h4.trans h6)
      · exact .inr ⟨b, h4.trans h6, h7⟩
    · exact .inr ⟨b, h4, Nat.le_trans h.1 h5⟩
theorem KeepsF.below {Ba Bo : Nat} {W W1 : World} {v : Value} (h : Below W.heap.size W W1) : KeepsF Ba Bo W W1 v v := ⟨h.size, fun k hk _ _ _ => h.block k hk, .inl rfl⟩
/-- How far it is, read off the world. -/
def atOf (Ba : Nat) (W : World) : Nat := match W.cell? ⟨Ba, 0, none⟩ with | some (.int _ n) => n.toNat | _ => 0
theorem atOf_of {Ba : Nat} {W : World} {n : Nat} {k : IntKind} (h : W.cell? ⟨Ba, 0, none⟩ = some (.int k (n : Int))) : atOf Ba W = n := by simp [atOf, h]

theorem wpList_store_row {P : Program} {ops : Array Oper} {rest : List Oper} {o : Oper} {a : Act} {w : World} {Q : Exit → Act → World → Prop} (hgd : o.guard = none) (t : TypeId) (p : Tmp) (x : Operand) (ho : o.op = .store t (.tmp p) x) (hN : o.dst = none)
    {b : Nat} (hb : b = w.heap.size) (hp : a.eval (.tmp p) = .pointer (some ⟨b, 0, none⟩)) {c c' : Array Value} (hx : a.eval x = .agg c') (hi : (P.info? t).map (·.size) = some c'.size) (hs : c.size = c'.size) (h1 : c'.all (·.oneCell') = true)
    (h : ∀ w1 : World, w1.heap[w.heap.size]? = some (.cells c' t (0, 0)) → Below w.heap.size w w1 → w.heap.size < w1.heap.size → wpList P ops Q rest a w1) : wpList P ops Q (o :: rest) a (w.alloc (.cells c t)) :=
  wpList_store_new hgd t p x ho hN hb hp hx hi hs h1 (h _ (blk_new _ _) ((Below.refl _ _).alloc (Nat.le_refl _) _) (by simp))
theorem fold_cells : ∀ (c : List Value) (k : Nat) (z : Array Value), k + c.length = z.size → List.foldl (fun (cs : Array Value) (x : Value × Nat) => cs.setIfInBounds x.2 x.1) z (c.zipIdx k) = (z.toList.take k ++ c).toArray
  | [], k, z, h => by simp at h; simp [List.take_of_length_le, h]
  | v :: c, k, z, h => by
    rw [List.zipIdx_cons, List.foldl_cons, fold_cells c (k + 1) (z.setIfInBounds k v) (by simp at h ⊢; omega)]
    congr 1
    have hk : k < z.toList.length := by simp at h ⊢; omega
    rw [Array.toList_setIfInBounds, List.take_succ_eq_append_getElem (by simpa using hk), List.take_set_of_le (Nat.le_refl _), List.getElem_set_self]
    simp
theorem fold_row {x : RowG} (h : x.1.length = 16) : List.foldl (fun (cs : Array Value) (x : Value × Nat) => cs.setIfInBounds x.2 x.1) #[.int .u8 0, .int .u8 0, .int .u8 0, .int .u8 0, .int .u8 0, .int .u8 0, .int .u8 0, .int .u8 0, .int .u8 0, .int .u8 0, .int .u8 0, .int .u8 0, .int .u8 0, .int .u8 0, .int .u8 0, .int .u8 0, .string ⟨#[]⟩] (rowCells x).zipIdx = (rowCells x).toArray := by
  rw [fold_cells _ _ _ (by rw [rowCells_len h]; rfl)]; simp
theorem after_set {w1 w2 : World} {b j : Nat} {v : Value} {cs cs' : Array Value} {t : TypeId} (hw : Aside0 (w2 = w1.setCell ⟨b, j, none⟩ v)) (hb : w1.heap[b]? = some (.cells cs t (0, 0))) (hc : cs.setIfInBounds j v = cs') :
    w2.heap[b]? = some (.cells cs' t (0, 0)) ∧ (∀ k, k ≠ b → w2.heap[k]? = w1.heap[k]?) ∧ w2.heap.size = w1.heap.size := by
  obtain rfl := hw.out
  exact ⟨by rw [heap_set_same hb, hc], fun k hk => heap_set_other hk _, by simp [World.setCell]⟩
theorem below_set {n b j : Nat} {v : Value} {w w1 w2 : World} (h : Below n w w1) (hw : Aside0 (w2 = w1.setCell ⟨b, j, none⟩ v)) (hn : n ≤ b) : Below n w w2 := by
  obtain rfl := hw.out
  exact h.setCell (p := ⟨b, j, none⟩) hn _
theorem blk_ne {W : World} {a b : Nat} {cs cs' : Array Value} {t t' : TypeId} (h : W.heap[a]? = some (.cells cs t (0, 0))) (k : W.heap[b]? = some (.cells cs' t' (0, 0))) (ht : t ≠ t') : a ≠ b := by
  rintro rfl
  rw [h] at k
  cases k
  exact ht rfl
theorem keep4 {W W2 W4 : World} {b : Nat} {o : Obj} {row : Option Nat} (h : W.heap[b]? = some o) (h2 : Below W.heap.size W W2) (h4 : W2.grownBy W4 row) (hne : some b ≠ row) : W4.heap[b]? = some o :=
  have hb := (Array.getElem?_eq_some_iff.1 h).1
  (h4.block b (Nat.lt_of_lt_of_le hb h2.size) hne).trans ((h2.block b hb).trans h)
theorem keep_ {W W1 : World} {b : Nat} {o : Obj} (h : W.heap[b]? = some o) (hb : Below W.heap.size W W1) : W1.heap[b]? = some o := (hb.block b (Array.getElem?_eq_some_iff.1 h).1).trans h
theorem set_keep {W : World} {b g j : Nat} {o : Obj} (h : W.heap[b]? = some o) (hne : b ≠ g) (v : Value) : (W.setCell ⟨g, j, none⟩ v).heap[b]? = some o := (heap_set_other hne v).trans h

set_option maxRecDepth 100000 in
set_option maxHeartbeats 8000000 in
theorem fresh_calls (w0 w : World) (B Ba Bl Bc Bo : Nat) (Al : Option Addr) (cl : Nat) (list : List ByteArray) (col a0 m : Nat) (rs : List RowG) (v0 : Value) (hC : Kd.C Kd.string w0 Al list.length list) (hB : B = w0.heap.size)
    (h : ComeI w0 w B Ba Bl Bc Bo Al cl list col a0 rs v0) (hcol : col < 16) (hto : m ≤ list.length) (ha : a0 ≤ m) (hl : list.length ≤ 100000) (hr : rs.length + list.length ≤ 1000000) :
    Calls Try.prog 64 #[.int .i64 (m : Int), .pointer (some ⟨Ba, 0, none⟩), .pointer (some ⟨Bl, 0, none⟩), .pointer (some ⟨Bc, 0, none⟩), .pointer (some ⟨Bo, 0, none⟩)] w fun e w' => ∃ v', e = .returned (.tuple #[]) ∧
      Aside0 (ComeI w0 w' B Ba Bl Bc Bo Al cl list col m (rs ++ ((list.take m).drop a0).map (oneRow col)) v') ∧ Aside0 (Below B w w') ∧ Aside0 (KeepsF Ba Bo w w' v0 v') := by
  have HC := Aside0.mk hC
  have HI := Aside0.mk h
  have HBw : Aside0 (B ≤ w.heap.size) := ⟨by rw [hB]; exact h.2.2.2.2.1.size⟩
  have HB0 := Aside0.mk hB
  clear hC h hB
  go_enter Try.func64, Try.ntmps64
  go_wp2_with fail
  go_loopw [] (fun wr => ∃ (k : Nat) (v : Value), a0 ≤ k ∧ k ≤ m ∧ Aside0 (ComeI w0 wr B Ba Bl Bc Bo Al cl list col k (rs ++ ((list.take k).drop a0).map (oneRow col)) v) ∧ Aside0 (Below B w wr) ∧ Aside0 (KeepsF Ba Bo w wr v0 v)) (fun wr => list.length - atOf Ba wr)
  case atStart => exact ⟨a0, v0, Nat.le_refl _, ha, by rw [List.drop_of_length_le (by rw [List.length_take]; omega)]; simpa using HI, ⟨Below.refl _ _⟩, ⟨KeepsF.refl _ _ _ _⟩⟩
  case round =>
    obtain ⟨k, v, hak, hk, HIr, HBr, HKr⟩ := hrel
    obtain ⟨h1, h2, h3, ⟨h4, h5⟩, h6, h7, h8, h9⟩ := HIr.out
    have ca : wr.cell? ⟨Ba, 0, none⟩ = some (.int .i64 (k : Int)) := cell_blk h1 rfl
    have H1 := Aside0.mk h1
    have H2 := Aside0.mk h2
    have H3 := Aside0.mk h3
    have H4 := Aside0.mk h4
    have H5 := Aside0.mk h5
    have H6 := Aside0.mk h6
    have H7 := Aside0.mk h7
    have H8 := Aside0.mk h8
    have H9 := Aside0.mk h9
    clear h1 h2 h3 h4 h5 h6 h7 h8 h9
    by_cases hlt : k < m
    · have cl_ : wr.cell? ⟨Bl, 0, none⟩ = some (.slice Al list.length cl) := cell_blk H2.out rfl
      have cc : wr.cell? ⟨Bc, 0, none⟩ = some (.int .i64 (col : Int)) := cell_blk H3.out rfl
      have co : wr.cell? ⟨Bo, 0, none⟩ = some v := cell_blk H4.out rfl
      obtain ⟨ad, rfl, hs⟩ := at_str HC.out k (by omega)
      replace hs := (H6.out.cell (by rw [HB0.out]; exact World.block_lt_of_cell? w0 _ hs)).trans hs
      have hkl : k < list.length := by omega
      have hsn : (list.take (k + 1)).drop a0 = (list.take k).drop a0 ++ [list.getD k ByteArray.empty] := by
        rw [← List.take_append_getElem hkl, List.drop_append_of_le_length (by rw [List.length_take]; omega)]
        simp only [getD_get hkl]
      have HSN := Aside0.mk hsn
      obtain ⟨s, hse⟩ : ∃ s, list.getD k ByteArray.empty = s := ⟨_, rfl⟩
      rw [hse] at hs HSN
      clear hse hsn
      obtain ⟨Ao, co_, rfl⟩ := Kd.R_slice H5.out
      have HZ : Aside0 ((rs ++ ((list.take k).drop a0).map (oneRow col)).length = rs.length + (k - a0)) := ⟨by simp; omega⟩
      obtain ⟨rws, hrw⟩ : ∃ rws, rs ++ ((list.take k).drop a0).map (oneRow col) = rws := ⟨_, rfl⟩
      have HRW := Aside0.mk hrw
      rw [hrw] at co HZ H4 H5
      clear hrw
      obtain ⟨n, hn⟩ : ∃ n, rws.length = n := ⟨_, rfl⟩
      rw [hn] at co HZ H4
      have HN := Aside0.mk hn
      have hH5 := H5.out
      rw [hn] at hH5
      have HR := Aside0.mk hH5
      clear hn hH5
      have hn5 : n ≤ 1000000 := by have := HZ.out; omega
      have b1 : decide ((k : Int) < (m : Int)) = true := decide_eq_true (by omega)
      have b2 : decide (k < m) = true := decide_eq_true hlt
      have e1 : wrap64 ((k : Int) + 1) = (k : Int) + 1 := by unfold wrap64; omega
      have hz16 : ((noMarks, s) : RowG).1.length = 16 := rfl
      have hcn : col < noMarks.length := hcol
      obtain ⟨x, hx⟩ : ∃ x, oneRow col s = x := ⟨_, rfl⟩
      have hx16 : x.1.length = 16 := by rw [← hx]; simp [oneRow, noMarks]
      have HX16 := Aside0.mk hx16
      have hfold := fold_row hx16
      have hl17 := rowCells_len hx16
      have HXE := Aside0.mk hx
      have hset : (rowCells (noMarks, s)).toArray.setIfInBounds col (.int .u8 1) = (rowCells x).toArray := by rw [rowCells_set hcn, ← hx]; rfl
      have HSET := Aside0.mk hset
      clear hset hx hx16 hz16
      go_wp2_with (first
        | ((with_reducible refine gate_store (t := 63) (p := 6) rfl ?_); (refine wpList_store_row rfl 63 6 _ rfl rfl (b := wr.heap.size) rfl rfl (c' := (rowCells (noMarks, s)).toArray) rfl (by kernel_rfl) (by rfl) rowCells_one ?_; intro w1 hb1 hl1 hz1; have cc1 : w1.cell? ⟨Bc, 0, none⟩ = some (.int .i64 (col : Int)) := cell_blk (keep_ H3.out hl1) rfl; have cx1 : w1.cell? ⟨wr.heap.size, col, none⟩ = some (.int .u8 0) := (cell_of_row _ _ _ _ _ _ hb1).trans (zeroRow_cell hcol s); have fx1 : w1.frozen? ⟨wr.heap.size, col, none⟩ = false := frozen_of_row _ _ _ _ _ hb1; have HB1 := Aside0.mk hb1; have HL1 := Aside0.mk hl1; have HZ1 := Aside0.mk hz1; clear hb1 hl1 hz1))
        | ((with_reducible refine gate_store (t := 5) (p := 19) rfl ?_); (refine store_at (t := 5) (p := 19) (v := .const (.int .u8 1)) (w1 := w1.setCell ⟨wr.heap.size, col, none⟩ (.int .u8 1)) ?hg ?ho ?hn ?hr ?_; (case ho => rfl); (case hg => rfl); (case hn => rfl); (case hr => first | (go_simp; done) | (go_simp; rfl)); intro w2 hw2; have hl2 := below_set HL1.out hw2 (Nat.le_refl _); have hb2 := (after_set hw2 HB1.out HSET.out).1; have c2o := (hl2.cell (World.block_lt_of_cell? wr _ co)).trans co; have HB2 := Aside0.mk hb2; have HL2 := Aside0.mk hl2; have HW2 : Aside0 (Below B w w2) := ⟨HBr.out.trans (hl2.mono (Nat.le_trans HBw.out HBr.out.size))⟩; have HZ2 : Aside0 (wr.heap.size < w2.heap.size) := ⟨blk_lt hb2⟩; clear hb2 hl2 hw2 cc1 cx1 fx1))
        | ((with_reducible refine gate_dst (N := 21) rfl ?_); (refine wpList_load_row rfl 63 _ rfl wr.heap.size rfl 63 (rowCells x).toArray (0, 0) _ HB2.out Try.underlying63 rfl (size_row HX16.out) ?_))
        | (at_builtin; (refine Kd.R_append kRow (w0 := w) B rfl (.tmp 20) (.tmp 22) 55 63 (.agg (rowCells (noMarks, ByteArray.empty)).toArray) 32 rfl Try.underlying55 info_row rfl (by decide) (by decide) (.slice Ao n co_) rws x (rowCells x) (fun _ => True) (fun _ => False) rfl rfl (kRow_M HX16.out) (fun _ h => h.elim) (fun _ _ => trivial) (Kd.R_below HR.out HL2.out) HW2.out (Nat.le_trans HBw.out HW2.out.size) (by rw [HN.out]; omega) ?_; intro v4 w4 hr4 hb4 hg4 hat4; have hgn : some Bo ≠ (Value.slice Ao n co_).ownBlock := Kd.R_ne HR.out H4.out (by decide); have h4o := (hg4.block Bo (Nat.lt_of_lt_of_le (blk_lt H4.out) HL2.out.size) hgn).trans (keep_ H4.out HL2.out); obtain ⟨A4, c4, hv4⟩ := Kd.R_slice hr4; subst hv4; have c4o : w4.cell? ⟨Bo, 0, none⟩ = some (.slice Ao n co_) := cell_blk h4o rfl; have f4o : w4.frozen? ⟨Bo, 0, none⟩ = false := frozen_of_row _ _ _ _ _ h4o; have HR4 := Aside0.mk hr4; have HB4 := Aside0.mk hb4; have HG4 := Aside0.mk hg4; have HAT := Aside0.mk hat4; have H4O := Aside0.mk h4o; have hl4 : (rws ++ [x]).length = n + 1 := (by simp [HN.out]); rw [hl4] at HR4 ⊢; clear hr4 hb4 hg4 h4o hat4 hgn c2o hl4))
        | ((with_reducible refine gate_store (t := 55) (p := 4) rfl ?_); (refine store_at (t := 55) (p := 4) (v := .tmp 23) (w1 := w4.setCell ⟨Bo, 0, none⟩ (.slice A4 (n + 1) c4)) ?hg ?ho ?hn ?hr ?_; (case ho => rfl); (case hg => rfl); (case hn => rfl); (case hr => first | (go_simp; done) | (go_simp; rfl)); intro w5 hw5; have hBaBo := blk_ne H1.out H4.out (by decide); have h5a := ((after_set hw5 H4O.out rfl).2.1 Ba hBaBo).trans (keep4 H1.out HL2.out HG4.out (Kd.R_ne HR.out H1.out (by decide))); have ca5 := cell_blk (j := 0) h5a rfl; have f5a : w5.frozen? ⟨Ba, 0, none⟩ = false := frozen_of_row _ _ _ _ _ h5a; have H5A := Aside0.mk h5a; clear c4o f4o h5a hBaBo))
        | ((with_reducible refine gate_store (t := 3) (p := 1) rfl ?_); (refine store_at (t := 3) (p := 1) (v := .tmp 11) (w1 := w5.setCell ⟨Ba, 0, none⟩ (.int .i64 ((k : Int) + 1))) ?hg ?ho ?hn ?hr ?_; (case ho => rfl); (case hg => rfl); (case hn => rfl); (case hr => first | (go_simp; done) | (go_simp; rfl)); intro w6 hw6; clear ca5 f5a)))
      go_roundw
      case measure =>
        have e6 : atOf Ba w6 = k + 1 := atOf_of (k := .i64) (n := k + 1) ((cell_blk (j := 0) (after_set hw6 H5A.out rfl).1 rfl).trans (by simp))
        rw [e6, atOf_of ca]; omega
      case rel =>
        have hBaBo := blk_ne H1.out H4.out (by decide)
        have hBlBo := blk_ne H2.out H4.out (by decide)
        have hBlBa := blk_ne H2.out H1.out (by decide)
        have hBcBo := blk_ne H3.out H4.out (by decide)
        have h6a := (after_set hw6 H5A.out rfl).1
        have o5 := (after_set hw5 H4O.out rfl).2.1
        have o6 := (after_set hw6 H5A.out rfl).2.1
        have h5o := (after_set hw5 H4O.out rfl).1
        have r5 : Kd.R kRow 63 w5 B (fun _ => True) (.slice A4 (n + 1) c4) (rws ++ [x]) := by rw [hw5.out]; exact Kd.R_set HR4.out H4O.out (by decide) _ _
        have r6 : Kd.R kRow 63 w6 B (fun _ => True) (.slice A4 (n + 1) c4) (rws ++ [x]) := by rw [hw6.out]; exact Kd.R_set r5 H5A.out (by decide) _ _
        have hrw2 : rs ++ ((list.take (k + 1)).drop a0).map (oneRow col) = rws ++ [x] := by rw [HSN.out, List.map_append, ← List.append_assoc, HRW.out, List.map_singleton, HXE.out]
        have hb6 : Below B w w6 := below_set (below_set HB4.out hw5 H8.out) hw6 H7.out
        refine ⟨k + 1, .slice A4 (n + 1) c4, by omega, by omega, ⟨⟨?_, ?_, ?_, ⟨?_, ?_⟩, ?_, H7.out, H8.out, H9.out⟩⟩, ⟨hb6⟩, ⟨HKr.out.trans ⟨?_, fun q hq h1 h2 h3 => ?_, ?_⟩⟩⟩
        · rw [h6a]; simp
        · exact (o6 Bl hBlBa).trans ((o5 Bl hBlBo).trans (keep4 H2.out HL2.out HG4.out (Kd.R_ne HR.out H2.out (by decide))))
        · exact (o6 Bc H9.out.symm).trans ((o5 Bc hBcBo).trans (keep4 H3.out HL2.out HG4.out (Kd.R_ne HR.out H3.out (by decide))))
        · exact (o6 Bo hBaBo.symm).trans h5o
        · rw [hrw2]; exact r6
        · exact HI.out.2.2.2.2.1.trans hb6
        · rw [(after_set hw6 H5A.out rfl).2.2, (after_set hw5 H4O.out rfl).2.2]
          exact Nat.le_trans HL2.out.size HG4.out.size
        · exact (o6 q h1).trans ((o5 q h2).trans ((HG4.out.block q (Nat.lt_of_lt_of_le hq HL2.out.size) (fun e => h3 (e.trans (own_eq _ _ _ _ _)))).trans (HL2.out.block q hq)))
        · rcases HAT.out with h | ⟨b, h, hh⟩
          · exact .inl ((own_eq _ _ _ _ _).trans (h.trans (own_eq _ _ _ _ _)))
          · exact .inr ⟨b, (own_eq _ _ _ _ _).trans h, Nat.le_trans HL2.out.size hh⟩
    · have hk' : k = m := by omega
      subst hk'
      go_wp2
      go_end0
      exact ⟨_, rfl, HIr, HBr, HKr⟩
end Go.Proofs.Ytnlekganlliikaa.X
-- part XGapMath
namespace Go.Proofs.Ytnlekganlliikaa.X
set_option linter.unusedVariables false
set_option linter.unusedSimpArgs false
/-- Places that rise, from lo on, below hi; -1: none. -/
def Up (hi : Nat) : Nat → List Int → Prop
  | lo, [] => lo ≤ hi
  | lo, m :: ms => (m = -1 ∧ Up hi lo ms) ∨ (∃ k : Nat, m = (k : Int) ∧ lo ≤ k ∧ k < hi ∧ Up hi (k + 1) ms)
theorem up_of_rises {a b : List Int} : ∀ {ms : List Int} {a b : List Int} {j n : Nat}, Rises a b j ms n → Up (j + b.length) j ms
  | [], a, b, j, n, h => by simp [Up]
  | m :: ms, a, b, j, n, h => by
    rcases h with ⟨h1, h2⟩ | ⟨k, n', h1, _, h3, h4, h5⟩
    · exact .inl ⟨h1, up_of_rises (a := []) (b := []) h2⟩
    · have hk : k < b.length := by
        rcases Nat.lt_or_ge k b.length with h | h
        · exact h
        · rw [List.getElem?_eq_none h] at h3
          cases a with
          | nil => exact absurd rfl h4
          | cons x xs => cases h3
      have := up_of_rises (a := []) (b := []) h5
      rw [List.length_drop] at this
      refine .inr ⟨j + k, h1, by omega, by omega, ?_⟩
      rwa [show j + k + 1 + (b.length - (k + 1)) = j + b.length by omega] at this
theorem match_up (a b : List Int) : Up b.length 0 (matchOf a b) := by
  have := up_of_rises (a := []) (b := []) (matchFrom_rises a b 0)
  rwa [Nat.zero_add] at this
/-- The rows, as a list comes to them: m tells where each row is paired. -/
def comeGo (col : Nat) (list : List ByteArray) : List Int → List RowG → Nat → List RowG
  | m :: ms, x :: rs, at_ => if 0 ≤ m then ((list.take m.toNat).drop at_).map (oneRow col) ++ (x.1.set col 1, x.2) :: comeGo col list ms rs (m.toNat + 1) else x :: comeGo col list ms rs at_
  | _, _, at_ => (list.drop at_).map (oneRow col)
def idsOf2 (rs : List RowG) (list : List ByteArray) : List (List Int) := idsAll [rs.map (·.2), list]
def matchG (rs : List RowG) (list : List ByteArray) : List Int := matchOf ((idsOf2 rs list).getD 0 []) ((idsOf2 rs list).getD 1 [])
def comeF (col : Nat) (list : List ByteArray) (rs : List RowG) : List RowG := comeGo col list (matchG rs list) rs 0
theorem ids2_len (rs : List RowG) (list : List ByteArray) : ((idsOf2 rs list).getD 0 []).length = rs.length ∧ ((idsOf2 rs list).getD 1 []).length = list.length := by
  constructor
  · show (idsOne [] (rs.map (·.2))).2.length = _
    rw [idsOne_length, List.length_map]
  · show (idsOne _ list).2.length = _
    rw [idsOne_length]
theorem matchG_len (rs : List RowG) (list : List ByteArray) : (matchG rs list).length = rs.length := by
  rw [matchG, matchOf, matchFrom_length, (ids2_len rs list).1]
theorem matchG_up (rs : List RowG) (list : List ByteArray) : Up list.length 0 (matchG rs list) := by
  have := match_up ((idsOf2 rs list).getD 0 []) ((idsOf2 rs list).getD 1 [])
  rwa [(ids2_len rs list).2] at this
theorem ids2_list (rs : List RowG) (list : List ByteArray) : idsOf2 rs list = [(idsOf2 rs list).getD 0 [], (idsOf2 rs list).getD 1 []] := rfl
theorem comeGo_nil (col : Nat) (list : List ByteArray) (rs : List RowG) (a : Nat) : comeGo col list [] rs a = (list.drop a).map (oneRow col) := by cases rs <;> rfl
theorem comeGo_no (col : Nat) (list : List ByteArray) (ms : List Int) (x : RowG) (rs : List RowG) (a : Nat) : comeGo col list (-1 :: ms) (x :: rs) a = x :: comeGo col list ms rs a := by
  rw [comeGo, if_neg (by decide)]
theorem comeGo_yes (col : Nat) (list : List ByteArray) (k : Nat) (ms : List Int) (x : RowG) (rs : List RowG) (a : Nat) : comeGo col list ((k : Int) :: ms) (x :: rs) a = ((list.take k).drop a).map (oneRow col) ++ (x.1.set col 1, x.2) :: comeGo col list ms rs (k + 1) := by
  rw [comeGo, if_pos (by omega), Int.toNat_natCast]
theorem comeGo_len (col : Nat) (list : List ByteArray) : ∀ (ms : List Int) (rs : List RowG) (a : Nat), ms.length = rs.length → Up list.length a ms → (comeGo col list ms rs a).length ≤ rs.length + (list.length - a)
  | [], rs, a, h, _ => by
    rw [comeGo_nil]; simp
  | m :: ms, [], a, h, _ => by simp at h
  | m :: ms, y :: rs, a, h, hu => by
    have h' : ms.length = rs.length := by simpa using h
    rcases hu with ⟨rfl, hu⟩ | ⟨k, rfl, h1, h2, hu⟩
    · have := comeGo_len col list ms rs a h' hu
      rw [comeGo_no, List.length_cons, List.length_cons]; omega
    · have := comeGo_len col list ms rs (k + 1) h' hu
      rw [comeGo_yes]
      simp only [List.length_append, List.length_map, List.length_drop, List.length_take, List.length_cons]
      omega
theorem comeF_len (col : Nat) (list : List ByteArray) (rs : List RowG) : (comeF col list rs).length ≤ rs.length + list.length := by
  have := comeGo_len col list _ rs 0 (matchG_len rs list) (matchG_up rs list)
  rw [comeF]; omega
end Go.Proofs.Ytnlekganlliikaa.X
-- part XPairMath
namespace Go.Proofs.Ytnlekganlliikaa.X
set_option linter.unusedVariables false
set_option linter.unusedSimpArgs false
theorem addT_self (t : List ByteArray) (s : ByteArray) : s ∈ addT t s := by
  unfold addT; split
  · rename_i h; exact (place_mem s).2 h
  · simp
theorem addT_sub (t : List ByteArray) (s x : ByteArray) (h : x ∈ t) : x ∈ addT t s := by
  unfold addT; split
  · exact h
  · simp [h]
theorem place_addT {t : List ByteArray} {s x : ByteArray} (h : x ∈ t) : place x (addT t s) = place x t := by
  unfold addT; split
  · rfl
  · exact place_append x _ ((place_mem x).1 h)
theorem place_addT_self (t : List ByteArray) (s : ByteArray) : place s (addT t s) = place s t := by
  unfold addT; split
  · rfl
  · rename_i h; rw [place_new s [] h, place_not h]
theorem place_inj {t : List ByteArray} {s s' : ByteArray} (h : s ∈ t) (e : place s t = place s' t) : s = s' := by
  have h1 := (place_mem s).1 h
  have h2 : place s' t < t.length := by omega
  have e1 := place_get s h1
  have e2 := place_get s' h2
  rw [← e1, ← e2]
  congr 1
/-- A text's number in a table. -/
def num (t : List ByteArray) (s : ByteArray) : Int := (place s t : Int)
theorem num_inj {t : List ByteArray} {s s' : ByteArray} (h : s ∈ t) (e : num t s = num t s') : s = s' := place_inj h (by unfold num at e; omega)
theorem idsOne_spec : ∀ (t l : List ByteArray), (∀ x ∈ t, x ∈ (idsOne t l).1 ∧ place x (idsOne t l).1 = place x t) ∧ (∀ x ∈ l, x ∈ (idsOne t l).1) ∧ (idsOne t l).2 = l.map (num (idsOne t l).1)
  | t, [] => ⟨fun x h => ⟨h, rfl⟩, fun x h => by simp at h, rfl⟩
  | t, s :: l => by
    obtain ⟨h1, h2, h3⟩ := idsOne_spec (addT t s) l
    have hs := h1 s (addT_self t s)
    refine ⟨fun x h => ?_, fun x h => ?_, ?_⟩
    · have := h1 x (addT_sub t s x h)
      exact ⟨this.1, this.2.trans (place_addT h)⟩
    · rcases List.mem_cons.1 h with rfl | h
      · exact hs.1
      · exact h2 x h
    · simp only [idsOne, List.map_cons]
      rw [h3]
      congr 1
      unfold num
      rw [hs.2, place_addT_self]
theorem tabOf_spec : ∀ (t : List ByteArray) (ls : List (List ByteArray)), (∀ x ∈ t, x ∈ tabOf t ls ∧ place x (tabOf t ls) = place x t) ∧ (∀ l ∈ ls, ∀ x ∈ l, x ∈ tabOf t ls) ∧ idsMany t ls = ls.map (fun l => l.map (num (tabOf t ls)))
  | t, [] => ⟨fun x h => ⟨h, rfl⟩, fun x h => by simp at h, rfl⟩
  | t, l :: ls => by
    obtain ⟨h1, h2, h3⟩ := tabOf_spec (idsOne t l).1 ls
    obtain ⟨g1, g2, g3⟩ := idsOne_spec t l
    refine ⟨fun x h => ?_, fun k hk x h => ?_, ?_⟩
    · have := h1 x (g1 x h).1
      exact ⟨this.1, this.2.trans (g1 x h).2⟩
    · rcases List.mem_cons.1 hk with rfl | hk
      · exact (h1 x (g2 x h)).1
      · exact h2 k hk x h
    · simp only [idsMany, tabOf, List.map_cons]
      rw [h3, g3]
      congr 1
      refine List.map_congr_left fun x hx => ?_
      unfold num
      rw [(h1 x (g2 x hx)).2]
/-- The numbers of some files' texts: all by one table. -/
theorem idsAll_map (ls : List (List ByteArray)) : idsAll ls = ls.map (fun l => l.map (num (tabOf [] ls))) := (tabOf_spec [] ls).2.2
theorem tabAll {ls : List (List ByteArray)} {l : List ByteArray} (hl : l ∈ ls) {x : ByteArray} (hx : x ∈ l) : x ∈ tabOf [] ls := (tabOf_spec [] ls).2.1 l hl x hx

theorem lcsL_map {α : Type} (f g : α → Int) (a b : List α) (h : ∀ x ∈ a, ∀ y ∈ b, (f x = f y ↔ g x = g y)) : lcsL (a.map f) (b.map f) = lcsL (a.map g) (b.map g) := by
  match a, b with
  | [], b => simp
  | x :: xs, [] => simp
  | x :: xs, y :: ys =>
    simp only [List.map_cons]
    rw [lcsL_cons, lcsL_cons]
    have h1 := lcsL_map f g xs ys (fun u hu v hv => h u (by simp [hu]) v (by simp [hv]))
    have h2 := lcsL_map f g xs (y :: ys) (fun u hu v hv => h u (by simp [hu]) v hv)
    have h3 := lcsL_map f g (x :: xs) ys (fun u hu v hv => h u hu v (by simp [hv]))
    simp only [List.map_cons] at h2 h3
    rw [h1, h2, h3]
    have := h x (by simp) y (by simp)
    by_cases e : f x = f y
    · rw [if_pos e, if_pos (this.1 e)]
    · rw [if_neg e, if_neg (fun e' => e (this.2 e'))]
  termination_by a.length + b.length
theorem matchFrom_map {α : Type} (f g : α → Int) (a b : List α) (j : Nat) (h : ∀ x ∈ a, ∀ y ∈ b, (f x = f y ↔ g x = g y)) : matchFrom (a.map f) (b.map f) j = matchFrom (a.map g) (b.map g) j := by
  match a, b with
  | [], b => simp [matchFrom_nil]
  | x :: xs, [] => simp [matchFrom_rest]
  | x :: xs, y :: ys =>
    simp only [List.map_cons]
    rw [matchFrom_cons, matchFrom_cons]
    have l2 := lcsL_map f g xs (y :: ys) (fun u hu v hv => h u (by simp [hu]) v hv)
    have l3 := lcsL_map f g (x :: xs) ys (fun u hu v hv => h u hu v (by simp [hv]))
    have h1 := matchFrom_map f g xs ys (j + 1) (fun u hu v hv => h u (by simp [hu]) v (by simp [hv]))
    have h2 := matchFrom_map f g xs (y :: ys) j (fun u hu v hv => h u (by simp [hu]) v hv)
    have h3 := matchFrom_map f g (x :: xs) ys (j + 1) (fun u hu v hv => h u hu v (by simp [hv]))
    simp only [List.map_cons] at h2 h3 l2 l3
    rw [h1, h2, h3, l2, l3]
    have := h x (by simp) y (by simp)
    by_cases e : f x = f y
    · rw [if_pos e, if_pos (this.1 e)]
    · rw [if_neg e, if_neg (fun e' => e (this.2 e'))]
  termination_by a.length + b.length
/-- How two lists of texts are paired. -/
def matchS (a b : List ByteArray) : List Int := matchOf (a.map (num (a ++ b))) (b.map (num (a ++ b)))
def lcsS (a b : List ByteArray) : Nat := lcsL (a.map (num (a ++ b))) (b.map (num (a ++ b)))
theorem num_iff {t : List ByteArray} {x y : ByteArray} (h : x ∈ t) : num t x = num t y ↔ x = y := ⟨fun e => num_inj h e, fun e => by rw [e]⟩
theorem matchS_num {t : List ByteArray} {a b : List ByteArray} (h : ∀ x ∈ a, x ∈ t) : matchOf (a.map (num t)) (b.map (num t)) = matchS a b :=
  matchFrom_map _ _ a b 0 fun x hx y hy => (num_iff (h x hx)).trans (num_iff (by simp [hx])).symm
theorem lcsS_num {t : List ByteArray} {a b : List ByteArray} (h : ∀ x ∈ a, x ∈ t) : lcsL (a.map (num t)) (b.map (num t)) = lcsS a b :=
  lcsL_map _ _ a b fun x hx y hy => (num_iff (h x hx)).trans (num_iff (by simp [hx])).symm
theorem matchS_length (a b : List ByteArray) : (matchS a b).length = a.length := by rw [matchS, matchOf, matchFrom_length, List.length_map]

/-- Each place is told -1, or a place of the list that holds the same; they rise, from lo on. -/
def Fits (list : List ByteArray) : List Int → List ByteArray → Nat → Prop
  | [], [], lo => lo ≤ list.length
  | m :: ms, s :: ss, lo => (m = -1 ∧ Fits list ms ss lo) ∨ (∃ k : Nat, m = (k : Int) ∧ lo ≤ k ∧ list[k]? = some s ∧ Fits list ms ss (k + 1))
  | _, _, _ => False
theorem Fits.len {list : List ByteArray} : ∀ {ms : List Int} {ss : List ByteArray} {lo : Nat}, Fits list ms ss lo → ms.length = ss.length
  | [], [], lo, h => rfl
  | [], _ :: _, lo, h => h.elim
  | _ :: _, [], lo, h => h.elim
  | m :: ms, s :: ss, lo, h => by
    rcases h with ⟨_, h⟩ | ⟨k, _, _, _, h⟩ <;> simp [Fits.len h]
theorem fits_of_rises {f : ByteArray → Int} {list : List ByteArray} : ∀ {ms : List Int} {a b : List ByteArray} {j n : Nat}, list.drop j = b → j ≤ list.length → ms.length = a.length → (∀ x ∈ a, ∀ y ∈ b, f x = f y → x = y) → Rises (a.map f) (b.map f) j ms n → Fits list ms a j
  | [], [], b, j, n, hb, hj, hl, hf, h => hj
  | [], _ :: _, b, j, n, hb, hj, hl, hf, h => by simp at hl
  | _ :: _, [], b, j, n, hb, hj, hl, hf, h => by simp at hl
  | m :: ms, x :: a, b, j, n, hb, hj, hl, hf, h => by
    have hl' : ms.length = a.length := by simpa using hl
    rcases h with ⟨h1, h2⟩ | ⟨k, n', h1, h2, h3, h4, h5⟩
    · exact .inl ⟨h1, fits_of_rises hb hj hl' (fun u hu => hf u (by simp [hu])) h2⟩
    · simp only [List.map_cons, List.head?_cons, List.getElem?_map, Option.map_eq_some_iff] at h3
      obtain ⟨y, hy, e⟩ := h3
      have hym : y ∈ b := List.mem_of_getElem? hy
      have := hf x (by simp) y hym e.symm
      subst this
      rw [← hb, List.getElem?_drop] at hy
      have hlt := (List.getElem?_eq_some_iff.1 hy).1
      refine .inr ⟨j + k, h1, by omega, hy, fits_of_rises (b := b.drop (k + 1)) (n := n') ?_ (by omega) hl' (fun u hu v hv => hf u (by simp [hu]) v (List.mem_of_mem_drop hv)) ?_⟩
      · rw [← hb, List.drop_drop]; rfl
      · rw [List.map_drop]; exact h5
theorem matchS_fits (a b : List ByteArray) : Fits b (matchS a b) a 0 :=
  fits_of_rises (f := num (a ++ b)) (n := lcsS a b) (List.drop_zero ..) (Nat.zero_le _) (matchS_length a b) (fun x hx y _ e => num_inj (by simp [hx]) e) (matchFrom_rises _ _ 0)
theorem rises_count {a b : List Int} : ∀ {ms : List Int} {a b : List Int} {j n : Nat}, Rises a b j ms n → (ms.filter (fun m => decide (0 ≤ m))).length = n
  | [], a, b, j, n, h => h.1.symm
  | m :: ms, a, b, j, n, h => by
    rcases h with ⟨rfl, h2⟩ | ⟨k, n', rfl, rfl, _, _, h5⟩
    · simp [rises_count (a := []) (b := []) h2]
    · have := rises_count (a := []) (b := []) h5
      rw [List.filter_cons, if_pos (by simp; omega), List.length_cons, this]
theorem matchS_count (a b : List ByteArray) : ((matchS a b).filter (fun m => decide (0 ≤ m))).length = lcsS a b := rises_count (a := []) (b := []) (matchFrom_rises _ _ 0)
end Go.Proofs.Ytnlekganlliikaa.X
-- part XGapLaw
namespace Go.Proofs.Ytnlekganlliikaa.X
set_option linter.unusedVariables false
set_option linter.unusedSimpArgs false
theorem matchG_S (rs : List RowG) (list : List ByteArray) : matchG rs list = matchS (rs.map (·.2)) list := by
  unfold matchG idsOf2
  rw [idsAll_map]
  exact matchS_num fun x hx => tabAll (ls := [rs.map (·.2), list]) (by simp) hx
theorem comeF_def (col : Nat) (list : List ByteArray) (rs : List RowG) : comeF col list rs = comeGo col list (matchS (rs.map (·.2)) list) rs 0 := by rw [comeF, matchG_S]
/-- The rows of so many columns. -/
def Cols (n : Nat) (rs : List RowG) : Prop := ∀ x ∈ rs, x.1.length = 16 ∧ (∀ c, x.1.getD c 0 = 0 ∨ x.1.getD c 0 = 1) ∧ (∀ c, n ≤ c → x.1.getD c 0 = 0) ∧ (∃ c, c < n ∧ x.1.getD c 0 = 1)
theorem getD_set (l : List Int) (i c : Nat) (v : Int) (h : i < l.length) : (l.set i v).getD c 0 = if c = i then v else l.getD c 0 := by
  simp only [List.getD_eq_getElem?_getD, List.getElem?_set]
  by_cases e : c = i
  · subst e; simp [h]
  · simp [e, Ne.symm e]
theorem noMarks_getD (c : Nat) : noMarks.getD c 0 = 0 := by
  simp only [noMarks, List.getD_eq_getElem?_getD, List.getElem?_replicate]
  split <;> rfl
theorem oneRow_getD {col : Nat} (h : col < 16) (s : ByteArray) (c : Nat) : (oneRow col s).1.getD c 0 = if c = col then 1 else 0 := by
  rw [oneRow, getD_set _ _ _ _ (by simpa [noMarks] using h), noMarks_getD]
theorem oneRow_len (col : Nat) (s : ByteArray) : (oneRow col s).1.length = 16 := by simp [oneRow, noMarks]
theorem comeGo_forall (P : RowG → Prop) (col : Nat) (list : List ByteArray) (h1 : ∀ s ∈ list, P (oneRow col s)) : ∀ (ms : List Int) (rs : List RowG) (a : Nat), ms.length = rs.length → (∀ x ∈ rs, P x ∧ P (x.1.set col 1, x.2)) → ∀ x ∈ comeGo col list ms rs a, P x
  | [], rs, a, hl, h => by
    rw [comeGo_nil]
    intro x hx
    obtain ⟨s, hs, rfl⟩ := List.mem_map.1 hx
    exact h1 s (List.mem_of_mem_drop hs)
  | m :: ms, [], a, hl, h => by simp at hl
  | m :: ms, y :: rs, a, hl, h => by
    have ih := fun a => comeGo_forall P col list h1 ms rs a (by simpa using hl) (fun x hx => h x (List.mem_cons_of_mem _ hx))
    have hy := h y List.mem_cons_self
    intro x hx
    rw [comeGo] at hx
    split at hx
    · rcases List.mem_append.1 hx with hx | hx
      · obtain ⟨s, hs, rfl⟩ := List.mem_map.1 hx
        exact h1 s (List.mem_of_mem_take (List.mem_of_mem_drop hs))
      · rcases List.mem_cons.1 hx with rfl | hx
        · exact hy.2
        · exact ih _ x hx
    · rcases List.mem_cons.1 hx with rfl | hx
      · exact hy.1
      · exact ih _ x hx
theorem comeF_len_m (rs : List RowG) (list : List ByteArray) : (matchS (rs.map (·.2)) list).length = rs.length := by rw [matchS_length, List.length_map]
theorem Cols.come {n : Nat} {rs : List RowG} (h : Cols n rs) (hn : n < 16) (list : List ByteArray) : Cols (n + 1) (comeF n list rs) := by
  rw [comeF_def]
  refine comeGo_forall (fun x => x.1.length = 16 ∧ (∀ c, x.1.getD c 0 = 0 ∨ x.1.getD c 0 = 1) ∧ (∀ c, n + 1 ≤ c → x.1.getD c 0 = 0) ∧ (∃ c, c < n + 1 ∧ x.1.getD c 0 = 1)) n list (fun s hs => ⟨oneRow_len _ _, fun c => ?_, fun c hc => ?_, n, by omega, ?_⟩) _ rs 0 (comeF_len_m rs list) fun x hx => ?_
  · rw [oneRow_getD hn]; split <;> simp
  · rw [oneRow_getD hn, if_neg (by omega)]
  · rw [oneRow_getD hn, if_pos rfl]
  · obtain ⟨h1, h2, h3, c0, h4, h5⟩ := h x hx
    have hnl : n < x.1.length := by omega
    refine ⟨⟨h1, h2, fun c hc => h3 c (by omega), c0, by omega, h5⟩, by simpa using h1, fun c => ?_, fun c hc => ?_, n, by omega, ?_⟩
    · show (x.1.set n 1).getD c 0 = 0 ∨ (x.1.set n 1).getD c 0 = 1
      rw [getD_set _ _ _ _ hnl]; split
      · simp
      · exact h2 c
    · show (x.1.set n 1).getD c 0 = 0
      rw [getD_set _ _ _ _ hnl, if_neg (by omega)]; exact h3 c (by omega)
    · show (x.1.set n 1).getD n 0 = 1
      rw [getD_set _ _ _ _ hnl, if_pos rfl]
/-- The texts that are marked in a column. -/
def colT (c : Nat) (rs : List RowG) : List ByteArray := (rs.filter (fun x => x.1.getD c 0 == 1)).map (·.2)
theorem colT_cons (c : Nat) (y : RowG) (l : List RowG) : colT c (y :: l) = (if y.1.getD c 0 = 1 then [y.2] else []) ++ colT c l := by
  unfold colT; rw [List.filter_cons]
  by_cases e : y.1.getD c 0 = 1
  · rw [if_pos (by rw [e]; rfl), if_pos e]; rfl
  · rw [if_neg (by simpa using e), if_neg e]; rfl
theorem colT_append (c : Nat) (a b : List RowG) : colT c (a ++ b) = colT c a ++ colT c b := by simp [colT]
theorem colT_new {col : Nat} (h : col < 16) (l : List ByteArray) : colT col (l.map (oneRow col)) = l := by
  induction l with
  | nil => rfl
  | cons s l ih =>
    rw [List.map_cons, colT_cons, oneRow_getD h, if_pos rfl, if_pos rfl, ih]; rfl
theorem colT_new_ne {col c : Nat} (h : col < 16) (hc : c ≠ col) (l : List ByteArray) : colT c (l.map (oneRow col)) = [] := by
  induction l with
  | nil => rfl
  | cons s l ih =>
    rw [List.map_cons, colT_cons, oneRow_getD h, if_neg hc, if_neg (by decide), ih]; rfl
theorem drop_take_at {list : List ByteArray} {a k : Nat} {s : ByteArray} (h1 : a ≤ k) (h : list[k]? = some s) : (list.take k).drop a ++ s :: list.drop (k + 1) = list.drop a := by
  obtain ⟨hk, rfl⟩ := List.getElem?_eq_some_iff.1 h
  rw [← List.drop_eq_getElem_cons hk]
  have : list.drop a = (list.take k ++ list.drop k).drop a := by rw [List.take_append_drop]
  rw [this, List.drop_append_of_le_length (by rw [List.length_take]; omega)]
theorem colT_come {col : Nat} (h : col < 16) (list : List ByteArray) : ∀ (ms : List Int) (rs : List RowG) (a : Nat), Fits list ms (rs.map (·.2)) a → (∀ x ∈ rs, x.1.length = 16 ∧ x.1.getD col 0 = 0) → colT col (comeGo col list ms rs a) = list.drop a
  | [], [], a, hf, hr => by rw [comeGo_nil, colT_new h]
  | [], _ :: _, a, hf, hr => hf.elim
  | m :: ms, [], a, hf, hr => hf.elim
  | m :: ms, y :: rs, a, hf, hr => by
    have hr' : ∀ x ∈ rs, x.1.length = 16 ∧ x.1.getD col 0 = 0 := fun x hx => hr x (List.mem_cons_of_mem _ hx)
    have hy := hr y List.mem_cons_self
    rcases hf with ⟨rfl, hf⟩ | ⟨k, rfl, h1, h2, hf⟩
    · have ih := colT_come h list ms rs a hf hr'
      rw [comeGo_no, colT_cons, if_neg (by rw [hy.2]; decide)]
      exact ih
    · have ih := colT_come h list ms rs (k + 1) hf hr'
      rw [comeGo_yes, colT_append, colT_new h, colT_cons, if_pos (by rw [getD_set _ _ _ _ (by omega), if_pos rfl]), ih]
      exact drop_take_at h1 h2
theorem colT_old {col c : Nat} (h : col < 16) (hc : c ≠ col) (list : List ByteArray) : ∀ (ms : List Int) (rs : List RowG) (a : Nat), ms.length = rs.length → (∀ x ∈ rs, x.1.length = 16) → colT c (comeGo col list ms rs a) = colT c rs
  | [], [], a, hf, hr => by rw [comeGo_nil, colT_new_ne h hc]; rfl
  | [], _ :: _, a, hf, hr => by simp at hf
  | m :: ms, [], a, hf, hr => by simp at hf
  | m :: ms, y :: rs, a, hf, hr => by
    have hr' : ∀ x ∈ rs, x.1.length = 16 := fun x hx => hr x (List.mem_cons_of_mem _ hx)
    have hy := hr y List.mem_cons_self
    have ih := fun a => colT_old h hc list ms rs a (by simpa using hf) hr'
    rw [comeGo]
    split
    · have e : (y.1.set col 1).getD c 0 = y.1.getD c 0 := by rw [getD_set _ _ _ _ (by omega), if_neg hc]
      rw [colT_append, colT_new_ne h hc, List.nil_append]
      rw [colT_cons, colT_cons, ih]
      simp only [e]
    · rw [colT_cons, colT_cons, ih]
/-- The rows of lists that come, one by one. -/
def rowsFrom : Nat → List (List ByteArray) → List RowG → List RowG
  | _, [], rs => rs
  | i, l :: ls, rs => rowsFrom (i + 1) ls (comeF i l rs)
theorem rowsFrom_snoc : ∀ (ls : List (List ByteArray)) (i : Nat) (l : List ByteArray) (rs : List RowG), rowsFrom i (ls ++ [l]) rs = comeF (i + ls.length) l (rowsFrom i ls rs)
  | [], i, l, rs => rfl
  | x :: ls, i, l, rs => by
    simp only [List.cons_append, rowsFrom, List.length_cons]
    rw [rowsFrom_snoc ls (i + 1) l _, show i + 1 + ls.length = i + (ls.length + 1) by omega]
def rowsOf (ls : List (List ByteArray)) : List RowG := rowsFrom 0 ls []
theorem rowsOf_snoc (ls : List (List ByteArray)) (l : List ByteArray) : rowsOf (ls ++ [l]) = comeF ls.length l (rowsOf ls) := by
  rw [rowsOf, rowsFrom_snoc, Nat.zero_add]; rfl
theorem snoc_induct {α : Type} {P : List α → Prop} (h0 : P []) (h1 : ∀ l x, P l → P (l ++ [x])) : ∀ l, P l := by
  intro l
  rw [← l.reverse_reverse]
  induction l.reverse with
  | nil => exact h0
  | cons x l ih => rw [List.reverse_cons]; exact h1 _ _ ih
theorem rowsOf_cols : ∀ ls : List (List ByteArray), ls.length ≤ 16 → Cols ls.length (rowsOf ls) := by
  refine snoc_induct (fun _ x hx => by simp [rowsOf, rowsFrom] at hx) fun ls l ih h => ?_
  rw [rowsOf_snoc]
  simp only [List.length_append, List.length_cons, List.length_nil] at h ⊢
  exact (ih (by omega)).come (by omega) l
theorem rowsOf_colT : ∀ ls : List (List ByteArray), ls.length ≤ 16 → ∀ c, c < ls.length → colT c (rowsOf ls) = ls.getD c [] := by
  refine snoc_induct (fun _ c hc => by simp at hc) fun ls l ih h c hc => ?_
  rw [rowsOf_snoc]
  simp only [List.length_append, List.length_cons, List.length_nil] at h hc
  have hC := rowsOf_cols ls (by omega)
  by_cases e : c = ls.length
  · subst e
    rw [comeF_def, colT_come (by omega) l _ _ 0 (matchS_fits _ _) (fun x hx => ⟨(hC x hx).1, (hC x hx).2.2.1 _ (Nat.le_refl _)⟩)]
    simp
  · rw [comeF_def, colT_old (by omega) e l _ _ 0 (comeF_len_m _ _) (fun x hx => (hC x hx).1), ih (by omega) c (by omega)]
    simp only [List.getD_eq_getElem?_getD]
    rw [List.getElem?_append_left (by omega)]
def sumLen (ls : List (List ByteArray)) : Nat := (ls.map List.length).sum
theorem rowsOf_le : ∀ ls : List (List ByteArray), (rowsOf ls).length ≤ sumLen ls := by
  refine snoc_induct (Nat.zero_le _) fun ls l ih => ?_
  rw [rowsOf_snoc]
  have := comeF_len ls.length l (rowsOf ls)
  simp only [sumLen, List.map_append, List.sum_append, List.map_cons, List.map_nil, List.sum_cons, List.sum_nil] at ih ⊢
  omega
end Go.Proofs.Ytnlekganlliikaa.X
-- part XOpen
namespace Go.Proofs.Ytnlekganlliikaa.X
open Go.RowKit Go.Proofs.YtnlekganlliikaaW.PrintWords Go.Deep
set_option linter.unusedVariables false
/-- No part of it is larger than memory. -/
def Light {H : Type} (P : Program) (t : TypeId) (d : DataW H) : Prop := ∀ n ∈ d.weights P t, n ≤ 140737488351232
/-- Whatever reads as data of type t, and is light, has cells of the kind d, and is good. -/
def Opens {α : Type} (P : Program) (t : TypeId) (d : Kd α) (good : α → Prop) : Prop :=
  ∀ {H : Type} (enc : TypeId × Value → H) (w : World) (fuel : Nat) (cs : List Value) (x : DataW H × List MemPlace),
    DataW.trod enc P w 0 (fun _ => true) true fuel t cs = some x → Light P t x.1 → ∃ y, d.K w y cs ∧ good y

theorem opens_string {P : Program} {t : TypeId} (ht : P.underlying t = some .string) : Opens P t Kd.string (fun s => s.size ≤ 140737488351232) := by
  intro H enc w fuel cs x h hl
  obtain ⟨s, rfl, rfl, hs⟩ := DataW.trod_string ht h
  refine ⟨s, rfl, ?_⟩
  have := hl s.data.toList.length (by simp [DataW.weights])
  simpa using this
theorem mem_weightsAll {H : Type} {P : Program} {e : TypeId} {n : Nat} : ∀ {l : List (DataW H)} {d : DataW H}, d ∈ l → n ∈ d.weights P e → n ∈ DataW.weightsAll P e l
  | d0 :: l, d, h, hn => by
    simp only [DataW.weightsAll, List.mem_append]
    rcases List.mem_cons.1 h with rfl | h
    · exact .inl hn
    · exact .inr (mem_weightsAll h hn)

theorem pick_list {α : Type} {Q : Nat → α → Prop} : ∀ n : Nat, (∀ i, i < n → ∃ y, Q i y) → ∃ ys : List α, ys.length = n ∧ ∀ (i : Nat) (y : α), ys[i]? = some y → Q i y
  | 0, _ => ⟨[], rfl, fun i y h => by simp at h⟩
  | n + 1, h => by
    obtain ⟨ys, hl, hq⟩ := pick_list n (fun i hi => h i (by omega))
    obtain ⟨y, hy⟩ := h n (by omega)
    refine ⟨ys ++ [y], by simp [hl], fun i z hz => ?_⟩
    rcases Nat.lt_or_ge i ys.length with hi | hi
    · rw [List.getElem?_append_left hi] at hz
      exact hq i z hz
    · have hi' : i = n := by
        have := (List.getElem?_eq_some_iff.1 hz).1
        simp at this
        omega
      subst hi'
      rw [List.getElem?_append_right hi, hl] at hz
      simp at hz
      exact hz ▸ hy

theorem opens_slice {α : Type} {P : Program} {t e : TypeId} {d : Kd α} {good : α → Prop} (ht : P.underlying t = some (.slice e)) (hc : P.cellsOf e = d.sz) {B : Nat} (hB : P.bytesOf e = B) (hd : Opens P e d good) :
    Opens P t (Kd.slice e d) (fun l => l.length * B ≤ 140737488351232 ∧ ∀ y ∈ l, good y) := by
  intro H enc w fuel cs x h hw
  rcases open_slice ht h with ⟨rfl, _⟩ | ⟨a, len, cap, m, n, D, Pl, rfl, _, hl, hm, hmm, rfl, hx⟩
  · exact ⟨[], ⟨none, 0, rfl, Nat.le_refl _, rfl, by simp, fun h => absurd h (by simp)⟩, by simp, by simp⟩
  · have hle : len ≤ m := by
      rw [hmm]
      simp
      exact hl
    have hD : ∀ i, i < len → Light P e (D i) := fun i hi n hn => hw n (by
      simp only [DataW.weights, ht]
      exact List.mem_cons_of_mem _ (List.mem_append_left _ (mem_weightsAll (List.mem_map.2 ⟨i, List.mem_range.2 hi, rfl⟩) hn)))
    have hS : len * B ≤ 140737488351232 := by
      have z := hw _ (by simp only [DataW.weights, ht]; exact List.mem_cons_self)
      rw [hB] at z
      simp only [List.length_map, List.length_range] at z
      exact Nat.le_trans (Nat.mul_le_mul_right _ (Nat.le_add_right _ _)) z
    obtain ⟨ys, hyl, hyq⟩ := pick_list (Q := fun i y => ∃ c, w.cells? 0 (a.add (i * d.sz)) d.sz = some c ∧ d.K w y c ∧ good y) len (fun i hi => by
      obtain ⟨c, h1, h2⟩ := hx i (by omega)
      obtain ⟨y, h3, h4⟩ := hd enc w n c _ h2 (hD i hi)
      rw [hc] at h1
      exact ⟨y, c, h1, h3, h4⟩)
    refine ⟨ys, ⟨some a, cap, by rw [hyl], by omega, rfl, ?_, fun _ => ⟨a, rfl, fun j p hp => ?_⟩⟩, ?_, fun y hy => ?_⟩
    · unfold maxLen at hm; omega
    · obtain ⟨c, h1, h3, _⟩ := hyq j p hp
      obtain ⟨_, hlen, hcell⟩ := World.cells?_some h1
      refine ⟨c, hlen, h3, fun i u hu => ?_⟩
      have hi : i < d.sz := by rw [← hlen]; exact (List.getElem?_eq_some_iff.1 hu).1
      rw [← Go.Deep.add_add, hcell i hi, hu]
    · rw [hyl]; exact hS
    · obtain ⟨j, hj, rfl⟩ := List.mem_iff_getElem.1 hy
      obtain ⟨_, _, _, hg⟩ := hyq j _ (List.getElem?_eq_getElem hj)
      exact hg

/-- An argument that is a slice: its value, what it reads as. -/
theorem Opens.slice_arg {α : Type} {P : Program} {t e : TypeId} {d : Kd α} {g : List α → Prop} (h : Opens P t (Kd.slice e d) g) {H : Type} {enc : TypeId × Value → H} {w : World} {v : Value} {x : DataW H} {ps : List MemPlace}
    (hv : ∃ a len cap, v = .slice a len cap) (hw : Light P t x) (ht : DataW.Trod enc P w 0 (fun _ => true) true t v x ps) :
    ∃ A c l, v = .slice A l.length c ∧ Kd.C d w A l.length l ∧ l.length ≤ c ∧ g l := by
  obtain ⟨fuel, hf⟩ := ht
  obtain ⟨l, ⟨A, c, hcs, hlc, hC⟩, hg⟩ := h enc w fuel _ _ hf hw
  obtain ⟨a, len, cap, rfl⟩ := hv
  simp [Value.cells] at hcs
  obtain ⟨rfl, rfl, rfl⟩ := hcs
  exact ⟨_, _, l, rfl, hC, hlc, hg⟩
/-- A row's datum is light. -/
theorem light_of {H : Type} {P : Program} {ts : List TypeId} {ds : List (DataW H)} (hsz : (DataW.weightsEach P ts ds).all (· ≤ reachBytes) = true) {j : Nat} {t : TypeId} {d : DataW H} (ht : ts[j]? = some t) (hd : ds[j]? = some d) : Light P t d := by
  intro n hn
  have := List.all_eq_true.1 hsz _ (DataW.weights_mem_each ht hd n hn)
  exact of_decide_eq_true this
end Go.Proofs.Ytnlekganlliikaa.X
-- part XIntern1
namespace Go.Proofs.Ytnlekganlliikaa.X
open Go.RowKit Go.Proofs.YtnlekganlliikaaW.PrintWords Go.Proofs.YtnlekganlliikaaW.PrintLast Go.Proofs.YtnlekganlliikaaW.PrintMore
open Go.Maps
set_option linter.unusedVariables false
set_option linter.unusedSimpArgs false
/-- A text as a map's key. -/
def keyT (s : ByteArray) : Lit := .string s.data.toList
theorem keyT_inj {a b : ByteArray} (h : keyT a = keyT b) : a = b := by
  have h := Lit.string.inj h
  exact ByteArray.ext (Array.toList_inj.1 h)
/-- What a map tells of a table of texts. -/
def Tells (D : DataW Unit) (t : List ByteArray) : Prop :=
  IsMap D ∧ ∀ s : ByteArray, s.size ≤ maxLen → Maps.has D (keyT s) = decide (place s t < t.length) ∧ (place s t < t.length → D.atKey (keyT s) (.lit (.int .i64 0)) = .lit (.int .i64 (place s t)))
/-- A table of texts, at block g. -/
def TableIn (W : World) (B g : Nat) (t : List ByteArray) : Prop :=
  ∃ gm tv D, W.heap[g]? = some (.cells #[.map (some gm), tv, .int .i64 (t.length : Int)] 125 (0, 0)) ∧ B ≤ g ∧ B ≤ gm ∧ W.ownsMap Try.prog 9 (plainElem Try.prog 3) gm t.length D ∧ Aside0 (Tells D t) ∧
    Kd.R Kd.string 9 W B (fun _ => True) tv t
/-- All blocks of cells but those of tables, and of texts, stay. -/
def IdKeeps (W W' : World) : Prop := W.heap.size ≤ W'.heap.size ∧ ∀ (k : Nat) (cells : Array Value) (q : TypeId) (fr : Nat × Nat), W.heap[k]? = some (.cells cells q fr) → q ≠ 125 → q ≠ 9 → W'.heap[k]? = some (.cells cells q fr)
theorem IdKeeps.refl (W : World) : IdKeeps W W := ⟨Nat.le_refl _, fun _ _ _ _ h _ _ => h⟩
theorem IdKeeps.trans {W W1 W2 : World} (h : IdKeeps W W1) (k : IdKeeps W1 W2) : IdKeeps W W2 := ⟨Nat.le_trans h.1 k.1, fun i c q fr hi h1 h2 => k.2 i c q fr (h.2 i c q fr hi h1 h2) h1 h2⟩
theorem IdKeeps.below {W W1 : World} (h : Below W.heap.size W W1) : IdKeeps W W1 := ⟨h.size, fun i c q fr hi _ _ => (h.block i (Array.getElem?_eq_some_iff.1 hi).1).trans hi⟩
theorem wf_len {n : Nat} (h : n ≤ 140737488355328) : (Lit.int .i64 (n : Int)).wf = true := by
  have e1 : IntKind.i64.min = -9223372036854775808 := rfl
  have e2 : IntKind.i64.max = 9223372036854775807 := rfl
  simp [Lit.wf, go_sem]
  omega

theorem intern_New (w : World) : Calls Try.prog 54 #[] w fun e w' => ∃ g, e = .returned (.pointer (some ⟨g, 0, none⟩)) ∧ Aside0 (TableIn w' w.heap.size g []) ∧ Aside0 (Below w.heap.size w w') := by
  have hmm := @run_makeMap Try.prog
  go_enter Try.func54, Try.ntmps54
  go_wp2
  go_ret
  have hm := World.ownsMap_made (H := Unit) w Try.prog 9 (plainElem Try.prog 3)
  obtain ⟨es, cl, hb, hr⟩ := hm
  refine ⟨_, rfl, ⟨⟨w.heap.size, .slice none 0 0, .map [], ?_, ?_, Nat.le_refl _, ⟨es, cl, ?_, hr⟩, ⟨isMap_empty, fun s hs => ⟨rfl, fun h => by simp [place] at h⟩⟩, Kd.R_nil _ _ _ _ _⟩⟩, ⟨((Below.refl _ w).alloc (Nat.le_refl _) _).alloc (by simp) _⟩⟩
  · have := World.alloc_heap_new (w.alloc (.map #[] 0)) (.cells #[.map (some w.heap.size), .slice none 0 0, .int .i64 0] 125)
    simpa using this
  · simp
  · exact (Below.heap_alloc _ _ _ (by simp)).trans hb
theorem Tells.put {D : DataW Unit} {t : List ByteArray} {s : ByteArray} (h : Tells D t) (hs : ¬ place s t < t.length) (hk : WideAt.IsKeyLit (keyT s)) : Tells (D.put (keyT s) (.lit (.int .i64 (t.length : Int)))) (t ++ [s]) := by
  obtain ⟨hm, hf⟩ := h
  refine ⟨hm.put _ _, fun x hx => ?_⟩
  by_cases e : x = s
  · subst e
    have hp := place_new x [] hs
    rw [has_put_same hm hk, atKey_put_same hm hk, hp]
    simp
  · have hne : keyT x ≠ keyT s := fun h => e (keyT_inj h)
    obtain ⟨h1, h2⟩ := hf x hx
    rw [has_put_other hne, atKey_put_other hne, h1]
    by_cases hp : place x t < t.length
    · rw [place_append x [s] hp]
      refine ⟨?_, fun _ => h2 hp⟩
      simp [hp]; omega
    · have : ¬ x ∈ t ++ [s] := by
        rw [List.mem_append, place_mem]
        rintro (h | h)
        · exact hp h
        · exact e (List.mem_singleton.1 h)
      rw [place_mem] at this
      exact ⟨by rw [decide_eq_false hp, decide_eq_false this], fun h => absurd h this⟩

set_option maxRecDepth 100000 in
set_option maxHeartbeats 1600000 in
theorem atomic_Add (g : Nat) (n : Int) (w : World) (hc : w.cell? ⟨g, 2, none⟩ = some (.int .i64 n)) (hf : w.frozen? ⟨g, 2, none⟩ = false) (hn : 0 ≤ n) (hn2 : n < 1000000000000000) :
    Calls Try.prog 78 #[.pointer (some ⟨g, 2, none⟩), .int .i64 1] w fun e w' => e = .returned (.int .i64 (n + 1)) ∧ w' = w.setCell ⟨g, 2, none⟩ (.int .i64 (n + 1)) := by
  have hs : (Op.intArith .add .i64 n 1).run Try.prog w = .ok (.int .i64 (n + 1)) w := by
    have e : IntKind.i64.wrap (n + 1) = n + 1 := IntWalk.i64_in _ ⟨by omega, by omega⟩
    rw [← e]; rfl
  have hx := run_call_add (P := Try.prog) Try.func85 (by kernel_rfl) (by kernel_rfl) (by kernel_rfl) .i64 (by kernel_rfl) hc hf hs
  go_enter Try.func78, Try.ntmps78
  go_wp2
  go_ret
  exact ⟨rfl, rfl⟩

theorem Kd.R_map {W W1 : World} {b e : Nat} {α : Type} {d : Kd α} {ok : Nat → Prop} {v : Value} {xs : List α} (h : Kd.R d e W b ok v xs) (hb : ∀ (k : Nat) (cells : Array Value) (q : TypeId) (fr : Nat × Nat), W.heap[k]? = some (.cells cells q fr) → q ∈ e :: d.E → W1.heap[k]? = W.heap[k]?) : Kd.R d e W1 b ok v xs := by
  refine Kd.R_mono (Kd.R_move (Kd.R_bound h) (fun k hk => ?_)) (fun k hk => hk.1)
  obtain ⟨_, _, _, q, hq, cells, hc⟩ := hk
  exact hb k cells q _ hc hq

set_option maxRecDepth 100000 in
set_option maxHeartbeats 4000000 in
/-- A text's number; the table then. -/
theorem table_Id (g B : Nat) (t : List ByteArray) (s : ByteArray) (w : World) (h : TableIn w B g t) (hs : s.size ≤ maxLen) (ht : t.length ≤ 1000000000) (hB : B ≤ w.heap.size) :
    Calls Try.prog 55 #[.pointer (some ⟨g, 0, none⟩), .string s] w fun e w' => e = .returned (.int .i64 (place s t)) ∧ Aside0 (TableIn w' B g (addT t s)) ∧ Aside0 (Below B w w') ∧ Aside0 (IdKeeps w w') := by
  have H := Aside0.mk h
  obtain ⟨gm, tv, D, hb, hg, hgm, hown, hT, hR⟩ := h
  have hlt := blk_lt hb
  have hkey : keyOf Try.prog 9 (.string s) = some (keyT s)   := WideMaps.keyOf_string_mk Try.underlying9 hs
  have zE : ∀ w : World, (zeroValue 3).run Try.prog w = .ok (.int .i64 0) w := fun w => by kernel_rfl
  have c0 : w.cell? ⟨g, 0, none⟩ = some (.map (some gm)) := cell_blk hb rfl
  obtain ⟨hD, hTf⟩ := hT.out
  obtain ⟨h1, h2⟩ := hTf s hs
  have HD := Aside0.mk hD
  have HB := Aside0.mk hb
  have HOWN := Aside0.mk hown
  have HR := Aside0.mk hR
  clear hD hTf hb hown hR
  by_cases hp : place s t < t.length
  · have h2' := h2 hp
    rw [decide_eq_true hp] at h1
    have H1 := Aside0.mk h1
    have H2 := Aside0.mk h2'
    clear h1 h2 h2'
    go_enter Try.func55, Try.ntmps55
    go_wp2_with (at_lookup; refine wpList_lookup_own_ok_int _ rfl _ _ 120 rfl 9 3 .i64 (string_keyed Try.underlying9) Try.underlying120 Try.underlying3 (zE _) gm t.length D rfl HOWN.out _ _ rfl hkey ?_; intro c hat hwc; rw [H1.out]; rw [H2.out] at hat; obtain rfl : c = (place s t : Int) := by (injection hat with hat; injection hat with _ hat; exact hat.symm))
    go_ret
    rw [addT, if_pos hp]
    exact ⟨rfl, H, ⟨Below.refl _ _⟩, ⟨IdKeeps.refl _⟩⟩
  · rw [decide_eq_false hp] at h1
    have H1 := Aside0.mk h1
    clear h1 h2
    have hpl := place_not hp
    have z0 : D.atKey (keyT s) (.lit (.int .i64 0)) = .lit (.int .i64 0) := atKey_of_not_has H1.out _
    have Z0 := Aside0.mk z0
    clear z0
    have c2 : w.cell? ⟨g, 2, none⟩ = some (.int .i64 (t.length : Int)) := cell_blk HB.out rfl
    have f2 : w.frozen? ⟨g, 2, none⟩ = false := frozen_of_row _ _ _ _ _ HB.out
    rw [hpl]
    go_enter Try.func55, Try.ntmps55
    go_wp2_with (at_lookup; refine wpList_lookup_own_ok_int _ rfl _ _ 120 rfl 9 3 .i64 (string_keyed Try.underlying9) Try.underlying120 Try.underlying3 (zE _) gm t.length D rfl HOWN.out _ _ rfl hkey ?_; intro c hat hwc; rw [H1.out]; rw [Z0.out] at hat; obtain rfl : c = (0 : Int) := by (injection hat with hat; injection hat with _ hat; exact hat.symm))
    refine (atomic_Add g (t.length : Int) _ c2 f2 (by omega) (by omega)).mono ?_
    rintro e w1 ⟨rfl, rfl⟩
    have hne : gm ≠ g := by
      rintro rfl
      obtain ⟨es, cl, hm, _⟩ := HOWN.out
      rw [HB.out] at hm; cases hm
    obtain ⟨w1, hw1⟩ : ∃ w1, w.setCell ⟨g, 2, none⟩ (.int .i64 ((t.length : Int) + 1)) = w1 := ⟨_, rfl⟩
    have HW1 := Aside0.mk hw1
    rw [hw1]
    have hb1 : w1.heap[g]? = some (.cells #[.map (some gm), tv, .int .i64 ((t.length : Int) + 1)] 125 (0, 0)) := by rw [← hw1]; exact heap_set_same HB.out _
    have ho1 : w1.ownsMap Try.prog 9 (plainElem Try.prog 3) gm t.length D := by
      obtain ⟨es, cl, hm, r⟩ := HOWN.out
      exact ⟨es, cl, by rw [← hw1, heap_set_other hne]; exact hm, r⟩
    have hr1 : Kd.R Kd.string 9 w1 B (fun _ => True) tv t := by rw [← hw1]; exact Kd.R_set HR.out HB.out (by decide) _ _
    have hbl1 : Below B w w1 := by rw [← hw1]; exact (Below.refl _ _).setCell (p := ⟨g, 2, none⟩) hg _
    have hk1 : IdKeeps w w1 := ⟨by rw [← hw1]; simp [World.setCell], fun k cells q fr hk h1 h2 => by
      rw [← hw1, heap_set_other]; · exact hk
      · rintro rfl; rw [HB.out] at hk; cases hk; exact h1 rfl⟩
    clear hw1
    have c10 : w1.cell? ⟨g, 0, none⟩ = some (.map (some gm)) := cell_blk hb1 rfl
    have HB1 := Aside0.mk hb1
    have HO1 := Aside0.mk ho1
    have HR1 := Aside0.mk hr1
    have HL1 := Aside0.mk hbl1
    have HK1 := Aside0.mk hk1
    clear hb1 ho1 hr1 hbl1 hk1
    have e1 : wrap64 ((t.length : Int) + 1 - 1) = (t.length : Int) := by unfold wrap64; omega
    have e2 : (t.length : Int) + 1 - 1 = (t.length : Int) := by omega
    clear c0 c2 f2
    go_wp2_with (first | (at_mapUpdate; (refine wpList_mapUpdate_own _ rfl _ _ _ 120 rfl 9 3 (string_keyed Try.underlying9) Try.underlying120 _ gm t.length D rfl HO1.out (by unfold maxLen; omega) _ _ _ rfl rfl hkey (.lit (.int .i64 (t.length : Int))) [] (plainElem_int Try.underlying3 (wf_len (by omega))) ?_; intro w2 hown2 hgrow2; have hb2 := (hgrow2.block g (blk_lt HB1.out) (fun e => hne (Option.some.inj e).symm)).trans HB1.out; have hr2 : Kd.R Kd.string 9 w2 B (fun _ => True) tv t := Kd.R_map HR1.out (fun k cells q fr hk _ => hgrow2.block k (Array.getElem?_eq_some_iff.1 hk).1 (fun e => by obtain ⟨es, cl, hm, _⟩ := HO1.out; rw [Option.some.inj e, hm] at hk; cases hk)); have c21 : w2.cell? ⟨g, 1, none⟩ = some tv := cell_blk hb2 rfl; obtain ⟨Av, cv, hev⟩ := Kd.R_slice hr2; subst hev; have HB2 := Aside0.mk hb2; have HR2 := Aside0.mk hr2; have HO2 := Aside0.mk hown2; have HG2 := Aside0.mk hgrow2; clear hb2 hr2 hown2 hgrow2)) | (at_builtin; (refine Kd.R_append Kd.string (w0 := w2) B rfl (.tmp 35) (.tmp 37) 34 9 (.string ByteArray.empty) 16 rfl Try.underlying34 info9 rfl (by decide) (by decide) _ t s [.string s] (fun _ => True) (fun _ => False) rfl rfl rfl (fun _ h => h.elim) (fun _ _ => trivial) HR2.out (Below.refl _ _) (Nat.le_trans hB (Nat.le_trans HK1.out.1 HG2.out.size)) (by omega) ?_; intro v3 w3 hr3 hbl3 hg3 hat3; have hgn : some g ≠ (Value.slice Av t.length cv).ownBlock := Kd.R_ne HR2.out HB2.out (by decide); have hb3 := (hg3.block g (blk_lt HB2.out) hgn).trans HB2.out; obtain ⟨A3, c3, hev3⟩ := Kd.R_slice hr3; subst hev3; have c31 := cell_blk (j := 1) hb3 rfl; have f31 : w3.frozen? ⟨g, 1, none⟩ = false := frozen_of_row _ _ _ _ _ hb3; have HR3 := Aside0.mk hr3; have HB3 := Aside0.mk hb3; have HL3 := Aside0.mk hbl3; have HG3 : Aside0 (w2.grownBy w3 (Value.slice Av t.length cv).ownBlock) := Aside0.mk hg3; clear hr3 hb3 hbl3 hg3 hat3)))
    go_ret
    have hadd : addT t s = t ++ [s] := by rw [addT, if_neg hp]
    have hlen : (t ++ [s]).length = t.length + 1 := by simp
    rw [hadd]
    have hgm2 : (Value.slice Av t.length cv).ownBlock ≠ some gm := by
      intro e
      obtain ⟨es, cl, hm, _⟩ := HO2.out
      obtain ⟨cells, hc⟩ := Kd.R_typed HR2.out gm e
      rw [hm] at hc; cases hc
    have hB2 : B ≤ w2.heap.size := Nat.le_trans hB (Nat.le_trans HK1.out.1 HG2.out.size)
    have HR3' := HR3.out
    rw [hlen] at HR3'
    refine ⟨rfl, ⟨⟨gm, .slice A3 (t.length + 1) c3, D.put (keyT s) (.lit (.int .i64 (t.length : Int))), ?_, hg, hgm, ?_, ⟨Tells.put hT.out hp trivial⟩, ?_⟩⟩, ⟨?_⟩, ⟨?_⟩⟩
    · rw [heap_set_same HB3.out, hlen]; rfl
    · obtain ⟨es, cl, hm, r⟩ := HO2.out
      refine ⟨es, cl, ?_, by rw [hlen]; exact r⟩
      rw [heap_set_other hne, HG3.out.block gm (by rcases Nat.lt_or_ge gm w2.heap.size with h | h
                                                   · exact h
                                                   · rw [Array.getElem?_eq_none h] at hm; cases hm) (fun e => hgm2 e.symm)]
      exact hm
    · exact Kd.R_set HR3' HB3.out (by decide) _ _
    · exact (((HL1.out.grown HG2.out (Nat.le_trans hB HK1.out.1) (fun j hj => by rw [← Option.some.inj hj]; exact hgm)).trans HL3.out).setCell (p := ⟨g, 1, none⟩) hg _)
    · refine ⟨?_, fun k cells q fr hk h1 h2 => ?_⟩
      · have a1 := HK1.out.1; have a2 := HG2.out.size; have a3 := HG3.out.size
        simp [World.setCell]; omega
      · have k1 := HK1.out.2 k cells q fr hk h1 h2
        have k2 := (HG2.out.block k (Array.getElem?_eq_some_iff.1 k1).1 (fun e => by
          obtain ⟨es, cl, hm, _⟩ := HO1.out
          rw [Option.some.inj e, hm] at k1; cases k1)).trans k1
        have k3 := (HG3.out.block k (Array.getElem?_eq_some_iff.1 k2).1 (fun e => by
          obtain ⟨cells', hc⟩ := Kd.R_typed HR2.out k e.symm
          rw [k2] at hc; cases hc; exact h2 rfl)).trans k2
        rw [heap_set_other]
        · exact k3
        · rintro rfl
          rw [HB3.out] at k3; cases k3; exact h1 rfl
end Go.Proofs.Ytnlekganlliikaa.X
-- part XIntern2
namespace Go.Proofs.Ytnlekganlliikaa.X
open Go.RowKit Go.Proofs.YtnlekganlliikaaW.PrintWords Go.Proofs.YtnlekganlliikaaW.PrintLast Go.Proofs.YtnlekganlliikaaW.PrintMore
open Go.Maps
set_option linter.unusedVariables false
set_option linter.unusedSimpArgs false
theorem TableIn.same {W W' : World} {B g : Nat} {t : List ByteArray} (h : TableIn W B g t) (hh : W'.heap = W.heap) : TableIn W' B g t := by
  obtain ⟨gm, tv, D, h1, h2, h3, h4, h5, h6⟩ := h
  obtain ⟨es, cl, h7, h8⟩ := h4
  exact ⟨gm, tv, D, by rw [hh]; exact h1, h2, h3, ⟨es, cl, by rw [hh]; exact h7, h8⟩, h5, Kd.R_move h6 (fun k _ => by rw [hh])⟩
theorem TableIn.step {W W' : World} {B g : Nat} {t : List ByteArray} (h : TableIn W B g t) (hh : ∀ k, k < W.heap.size → (∀ cells q fr, W.heap[k]? = some (.cells cells q fr) → q = 125 ∨ q = 9) → W'.heap[k]? = W.heap[k]?) : TableIn W' B g t := by
  obtain ⟨gm, tv, D, h1, h2, h3, h4, h5, h6⟩ := h
  obtain ⟨es, cl, h7, h8⟩ := h4
  have l7 : gm < W.heap.size := (Array.getElem?_eq_some_iff.1 h7).1
  refine ⟨gm, tv, D, (hh g (blk_lt h1) (fun c q fr e => by rw [h1] at e; cases e; exact .inl rfl)).trans h1, h2, h3, ⟨es, cl, (hh gm l7 (fun c q fr e => by rw [h7] at e; cases e)).trans h7, h8⟩, h5, Kd.R_map h6 (fun k c q fr e hq => hh k (Array.getElem?_eq_some_iff.1 e).1 (fun c' q' fr' e' => ?_))⟩
  rw [e] at e'
  cases e'
  exact .inr (by simpa [Kd.string, Kd.scalar] using hq)

abbrev KI : Kd (List Int) := Kd.slice 3 (Kd.int .i64)
/-- The rows behind k files, and j texts of the next. -/
def rowsAt (files : List (List ByteArray)) (k j : Nat) : List (List Int) :=
  idsMany [] (files.take k) ++ (idsOne (tabOf [] (files.take k)) ((files.getD k []).take j)).2 :: List.replicate (files.length - k - 1) []
theorem rowsAt_start (files : List (List ByteArray)) (k : Nat) (h : k < files.length) : idsMany [] (files.take k) ++ List.replicate (files.length - k) [] = rowsAt files k 0 := by
  have : files.length - k = (files.length - k - 1) + 1 := by omega
  rw [rowsAt, this, List.replicate_succ]
  simp [idsOne]
theorem rowsAt_end (files : List (List ByteArray)) (k : Nat) (h : k < files.length) : rowsAt files k (files.getD k []).length = idsMany [] (files.take (k + 1)) ++ List.replicate (files.length - (k + 1)) [] := by
  have h2 : files.take (k + 1) = files.take k ++ [files.getD k []] := by
    rw [← List.take_append_getElem h]; simp [h]
  rw [rowsAt, List.take_length, h2, idsMany_snoc, show files.length - k - 1 = files.length - (k + 1) by omega]
  simp
theorem rowsAt_len (files : List (List ByteArray)) (k j : Nat) (h : k < files.length) : (rowsAt files k j).length = files.length := by
  simp [rowsAt, idsMany_length]; omega
theorem rowsAt_get (files : List (List ByteArray)) (k j : Nat) (h : k < files.length) : (rowsAt files k j).getD k [] = (idsOne (tabOf [] (files.take k)) ((files.getD k []).take j)).2 := by
  have hl : (idsMany [] (files.take k)).length = k := by rw [idsMany_length, List.length_take]; omega
  rw [rowsAt, List.getD_eq_getElem?_getD, List.getElem?_append_right (by omega), hl]
  simp
theorem rowsAt_set (files : List (List ByteArray)) (k j : Nat) (h : k < files.length) (hj : j < (files.getD k []).length) : (rowsAt files k j).set k ((idsOne (tabOf [] (files.take k)) ((files.getD k []).take j)).2 ++ [(place (files.getD k [])[j] (idsOne (tabOf [] (files.take k)) ((files.getD k []).take j)).1 : Int)]) = rowsAt files k (j + 1) := by
  have hl : (idsMany [] (files.take k)).length = k := by rw [idsMany_length, List.length_take]; omega
  rw [rowsAt, List.set_append_right _ _ (by omega), hl, Nat.sub_self, List.set_cons_zero, rowsAt, ← List.take_append_getElem hj, idsOne_snoc]
def tabAt (files : List (List ByteArray)) (k j : Nat) : List ByteArray := (idsOne (tabOf [] (files.take k)) ((files.getD k []).take j)).1
theorem tabAt_step (files : List (List ByteArray)) (k j : Nat) (hj : j < (files.getD k []).length) : addT (tabAt files k j) (files.getD k [])[j] = tabAt files k (j + 1) := by
  rw [tabAt, tabAt, ← List.take_append_getElem hj, idsOne_snoc]
theorem tabAt_end (files : List (List ByteArray)) (k : Nat) (h : k < files.length) : tabAt files k (files.getD k []).length = tabOf [] (files.take (k + 1)) := by
  have h2 : files.take (k + 1) = files.take k ++ [files.getD k []] := by
    rw [← List.take_append_getElem h]; simp [h]
  rw [tabAt, List.take_length, h2, tabOf_snoc]
theorem tabAt_start (files : List (List ByteArray)) (k : Nat) : tabAt files k 0 = tabOf [] (files.take k) := by
  simp [tabAt, idsOne]
/-- How many texts. -/
def total (files : List (List ByteArray)) : Nat := (files.map List.length).sum
theorem tabOf_le : ∀ (t : List ByteArray) (ls : List (List ByteArray)), (tabOf t ls).length ≤ t.length + total ls
  | t, [] => by simp [tabOf, total]
  | t, l :: ls => by
    have h1 := tabOf_le (idsOne t l).1 ls
    have h2 := idsOne_table_le t l
    simp only [tabOf, total, List.map_cons, List.sum_cons] at h1 ⊢
    omega
theorem total_take (files : List (List ByteArray)) (k : Nat) (h : k < files.length) : total (files.take k) + (files.getD k []).length ≤ total files := by
  have h1 : files = files.take k ++ files.drop k := (List.take_append_drop k files).symm
  have h2 : files.drop k = files.getD k [] :: files.drop (k + 1) := by rw [List.drop_eq_getElem_cons h]; simp [h]
  have : total files = total (files.take k) + total (files.drop k) := by
    unfold total
    rw [← List.sum_append, ← List.map_append, List.take_append_drop]
  rw [this, h2]
  simp [total]
theorem tabAt_le (files : List (List ByteArray)) (k j : Nat) (h : k < files.length) : (tabAt files k j).length ≤ total files := by
  have h1 := idsOne_table_le (tabOf [] (files.take k)) ((files.getD k []).take j)
  have h2 := tabOf_le [] (files.take k)
  have h3 := total_take files k h
  rw [List.length_take] at h1
  simp only [List.length_nil] at h2
  rw [tabAt]; omega

def intern_All.f (files : List (List ByteArray)) : Option (List (List Int)) := if files.length ≤ 1000 ∧ total files ≤ 1000000 ∧ ∀ l ∈ files, ∀ s ∈ l, s.size ≤ maxLen then some (idsAll files) else none

theorem S_types2 {W : World} {B : Nat} {v : Value} {rows : List (List Int)} (h : Kd.S KI 49 W B (fun _ => True) v rows) : Kd.S KI 49 W B (fun k => ∃ q, (q = 49 ∨ q = 3) ∧ k < W.heap.size ∧ ∃ cells, W.heap[k]? = some (.cells cells q (0, 0))) v rows :=
  Kd.S_mono (Kd.S_bound h) (fun k hk => by
    obtain ⟨_, _, hlt, q, hq, hc⟩ := hk
    refine ⟨q, ?_, hlt, hc⟩
    simpa [KI, Kd.slice, Kd.int, Kd.scalar] using hq)
theorem idstep {W W' : World} {k : Nat} (hk : IdKeeps W W') (h : ∃ q, (q = 49 ∨ q = 3) ∧ k < W.heap.size ∧ ∃ cells, W.heap[k]? = some (.cells cells q (0, 0))) : W'.heap[k]? = W.heap[k]? := by
  obtain ⟨q, hq, _, cells, hc⟩ := h
  rw [hc]
  exact hk.2 k cells q _ hc (by rcases hq with rfl | rfl <;> decide) (by rcases hq with rfl | rfl <;> decide)
/-- A row appended to, stored back. -/
theorem rows_put {W W3 : World} {B go n c2 k : Nat} {v1 v3 : Value} {rows : List (List Int)} {row row' : List Int} {oki : Nat → Prop}
    (hH : Kd.H KI 49 W B (fun _ => True) (.slice (some ⟨go, 0, none⟩) n c2) rows (k : Int) (fun q => oki q ∨ True ∧ W.heap.size ≤ q) [v1])
    (hv : Kd.R (Kd.int .i64) 3 W B (fun q => oki q ∨ W.heap.size ≤ q) v1 row) (hg : W.grownBy W3 v1.ownBlock)
    (hr : Kd.R (Kd.int .i64) 3 W3 B (fun q => oki q ∨ W.heap.size ≤ q) v3 row') (ho : ∀ q, oki q → q ≠ go) (hgo : go < W.heap.size) (hn : rows.length = n) (hk : k < n) :
    Kd.S KI 49 (W3.setCell ⟨go, k, none⟩ v3) B (fun _ => True) (.slice (some ⟨go, 0, none⟩) n c2) (rows.set k row') := by
  have h3 := Kd.H_grown hH hg (fun q hq => by
    rcases hv.1 q hq with h | h
    · exact .inl h
    · exact .inr ⟨trivial, h⟩)
  have hone : ∀ q ∈ [v3], q.oneCell' = true := fun q hq => by rw [List.mem_singleton.1 hq]; exact (Kd.R_val hr).2
  have h4 := (Kd.H_seg h3 (by omega) (by omega) (seg := [v3]) (j := 0) (by simp [KI, Kd.slice]) hone).1
  have e : (k : Int).toNat * KI.sz + 0 = k := by simp [KI, Kd.slice]
  rw [e] at h4
  have h5 := Kd.H_back (x' := row') (okp := fun q => oki q ∨ W.heap.size ≤ q) h4 ⟨v3, rfl, Kd.R_far (p := ⟨go, k, none⟩) hr (fun q hq => by
    rcases hq with h | h
    · exact ho q h
    · show q ≠ go
      omega) _⟩ (fun q hq => hq.imp id (fun h => ⟨trivial, h⟩))
  rw [Int.toNat_natCast] at h5
  exact h5
theorem table_put {W W3 : World} {B g go k : Nat} {t : List ByteArray} {v1 v3 : Value} {row : List Int} {okx : Nat → Prop} {gc : Array Value} (h : TableIn W B g t) (hv : Kd.R (Kd.int .i64) 3 W B okx v1 row) (hg : W.grownBy W3 v1.ownBlock)
    (hb : W3.heap[go]? = some (.cells gc 49 (0, 0))) : TableIn (W3.setCell ⟨go, k, none⟩ v3) B g t := by
  refine (h.step (W' := W3) (fun q hq ht => hg.block q hq (fun e => ?_))).step (fun q hq ht => ?_)
  · obtain ⟨cells, hc⟩ := Kd.R_typed hv q e.symm
    rcases ht _ _ _ hc with h | h <;> exact absurd h (by decide)
  · refine heap_set_other (fun e => ?_) _
    subst e
    rcases ht _ _ _ hb with h | h <;> exact absurd h (by decide)

set_option maxRecDepth 100000 in
set_option maxHeartbeats 8000000 in
theorem intern_All.calls (A0 : Option Addr) (c0 : Nat) (l0 : List (List ByteArray)) (r : List (List Int)) (w : World) (hr0 : Kd.C (Kd.slice 9 Kd.string) w A0 l0.length l0) (hc0 : l0.length ≤ c0) (h : intern_All.f l0 = some r) :
    Calls Try.prog 30 #[.slice A0 l0.length c0] w fun e w' => ∃ v0_ : Value, e = .returned v0_ ∧ Kd.S KI 49 w' w.heap.size (fun _ => True) v0_ r ∧ Below w.heap.size w w' := by
  have HR0 := Aside0.mk hr0
  have HC0 := Aside0.mk hc0
  clear hr0 hc0
  unfold intern_All.f at h
  split at h
  · rename_i hf
    obtain ⟨hfl, htot, hsz⟩ := hf
    have h := Option.some.inj h
    subst h
    have HSZ := Aside0.mk hsz
    clear hsz
    obtain ⟨B, hBe⟩ : ∃ B, w.heap.size = B := ⟨_, rfl⟩
    have hBw : B ≤ w.heap.size := Nat.le_of_eq hBe.symm
    have HBe := Aside0.mk hBe
    clear hBe
    go_enter Try.func30, Try.ntmps30
    go_wp2_with fail
    refine (intern_New _).mono ?_
    rintro e w1 ⟨g, rfl, HT1, HB1⟩
    rw [HBe.out] at HT1 HB1
    go_wp2_with ((with_reducible refine gate_dst (N := 12) rfl ?_); go_loud (refine Kd.S_make KI (w0 := w) B 49 rfl (N := 12) rfl 44 _ _ rfl (l0.length : Int) rfl rfl Try.underlying44 (.slice none 0 0) 24 info49 rfl (by decide) (by omega) [] (ok := fun _ => True) (okp := fun _ => True) ⟨_, rfl, Kd.R_nil _ _ _ _ _⟩ (fun _ hk => hk) trivial (by omega) (by omega) HB1.out (Nat.le_trans hBw HB1.out.size) ?_; intro v2 w2 hs2 hb2 hg2 hnew2; have HS2 := Aside0.mk hs2; have HB2 := Aside0.mk hb2; have HT2 : Aside0 (TableIn w2 B g []) := ⟨HT1.out.step (fun k hk _ => hg2.block k hk (by simp))⟩; have HZ2 := Aside0.mk hg2.size; clear hs2 hb2 hg2 hnew2))
    have hrep : ∀ n : Nat, ((n : Int)).toNat = n := fun n => Int.toNat_natCast n
    rw [hrep] at HS2
    obtain ⟨A2, c2, rfl⟩ := Kd.S_slice HS2.out
    have HN : Aside0 ((List.replicate l0.length ([] : List Int)).length = l0.length) := ⟨by simp⟩
    rw [HN.out] at HS2 ⊢
    clear hrep
    go_loopw [15] (fun i wr => ∃ k : Nat, k ≤ l0.length ∧ i = .int .i64 k ∧ Aside0 (Kd.S KI 49 wr B (fun _ => True) (.slice A2 l0.length c2) (idsMany [] (l0.take k) ++ List.replicate (l0.length - k) [])) ∧ Aside0 (TableIn wr B g (tabOf [] (l0.take k))) ∧ Aside0 (Below B w wr)) (fun i _ => l0.length - (intOf i).toNat)
    case atStart => exact ⟨0, Nat.zero_le _, rfl, by simpa [idsMany] using HS2, HT2, HB2⟩
    case round =>
      obtain ⟨k, hk, rfl, HS, HT, HB⟩ := hrel
      by_cases hlt : k < l0.length
      · obtain ⟨ad, A5, c5, rfl, hrow, hc5, hC5⟩ := at_slice HR0.out k hlt
        replace hrow := (HB.out.cell (by rw [← HBe.out]; exact World.block_lt_of_cell? w _ hrow)).trans hrow
        obtain ⟨go, rfl⟩ : ∃ go, A2 = some ⟨go, 0, none⟩ := by
          obtain ⟨go, cap, e, _⟩ := Kd.S_form HS.out (by simp [idsMany_length]; omega)
          injection e with e1 e2 e3
          exact ⟨go, e1⟩
        obtain ⟨l, hl⟩ : ∃ l, l0.getD k [] = l := ⟨_, rfl⟩
        have HL := Aside0.mk hl
        rw [hl] at hrow hc5 hC5
        have HC5 := Aside0.mk hC5
        have Hc5 := Aside0.mk hc5
        have hlm : l ∈ l0 := by rw [← hl, getD_get hlt]; exact List.getElem_mem hlt
        have HLM := Aside0.mk hlm
        have htk := total_take l0 k hlt
        rw [hl] at htk
        clear hC5 hc5 hl hlm
        have HW0 := Aside0.mk (HB.out)
        go_wp2_with fail
        go_loopw [22] (fun i wj => ∃ j : Nat, j ≤ l.length ∧ i = .int .i64 j ∧ Aside0 (Kd.S KI 49 wj B (fun _ => True) (.slice (some ⟨go, 0, none⟩) l0.length c2) (rowsAt l0 k j)) ∧ Aside0 (TableIn wj B g (tabAt l0 k j)) ∧ Aside0 (Below B w wj)) (fun i _ => l.length - (intOf i).toNat)
        case atStart => exact ⟨0, Nat.zero_le _, rfl, by rw [← rowsAt_start l0 k hlt]; exact HS, by rw [tabAt_start]; exact HT, HB⟩
        case round =>
          obtain ⟨j, hj, rfl, HSj, HTj, HBj⟩ := hrel
          clear HS HT HB
          by_cases hjl : j < l.length
          · obtain ⟨ads, rfl, hstr⟩ := at_str HC5.out j hjl
            replace hstr := (HBj.out.cell (by rw [← HBe.out]; exact World.block_lt_of_cell? w _ hstr)).trans hstr
            have hsm : l.getD j ByteArray.empty ∈ l := by rw [getD_get hjl]; exact List.getElem_mem hjl
            have hrl := rowsAt_len l0 k j hlt
            have hrs : (rowsAt l0 k j).set k ((rowsAt l0 k j).getD k [] ++ [(place (l.getD j ByteArray.empty) (tabAt l0 k j) : Int)]) = rowsAt l0 k (j + 1) := by
              rw [rowsAt_get l0 k j hlt, ← rowsAt_set l0 k j hlt (by rw [HL.out]; exact hjl)]
              congr 3
              simp only [tabAt, HL.out, getD_get hjl]
            have hts : addT (tabAt l0 k j) (l.getD j ByteArray.empty) = tabAt l0 k (j + 1) := by
              rw [← tabAt_step l0 k j (by rw [HL.out]; exact hjl)]
              simp only [HL.out, getD_get hjl]
            have hrowlen : ((rowsAt l0 k j).getD k []).length ≤ 1000000 := by
              rw [rowsAt_get l0 k j hlt, idsOne_length, List.length_take]
              omega
            obtain ⟨s, hse⟩ : ∃ s, l.getD j ByteArray.empty = s := ⟨_, rfl⟩
            rw [hse] at hstr hsm hrs hts
            have hsz : s.size ≤ maxLen := HSZ.out l HLM.out s hsm
            obtain ⟨row, hrow2⟩ : ∃ row, (rowsAt l0 k j).getD k [] = row := ⟨_, rfl⟩
            have HROW := Aside0.mk hrow2
            rw [hrow2] at hrs hrowlen
            have HRS := Aside0.mk hrs
            have HTS := Aside0.mk hts
            have htl := tabAt_le l0 k j hlt
            clear hrs hts hsm hse hrow2
            obtain ⟨oki, c, hcl, hM, hcc, hfz, hoki, hH⟩ := Kd.S_elem (S_types2 HSj.out) [] (k : Int) (by omega) (by omega)
            rw [Int.toNat_natCast, HROW.out] at hM
            obtain ⟨v1, rfl, hv1⟩ := hM
            obtain ⟨A1, c1, rfl⟩ := Kd.R_slice hv1
            have hcell : wr.cell? ⟨go, k, none⟩ = some (.slice A1 row.length c1) := by
              have := hcc 0 _ rfl
              simpa [KI, Kd.slice] using this
            obtain ⟨gcells, hgb⟩ := Kd.S_typed HSj.out go rfl
            have hgo := blk_lt hgb
            have hkg : (k : Int).toNat = k := Int.toNat_natCast k
            have HH := Aside0.mk hH
            have HV1 := Aside0.mk hv1
            have HOKI := Aside0.mk hoki
            have HGB := Aside0.mk hgb
            clear hcc hfz hoki hv1 hcl hH hgb hkg
            have hBj : B ≤ wr.heap.size := Nat.le_trans hBw HBj.out.size
            have hkI : ((k : Int) < (l0.length : Int)) = True := eq_true (by omega)
            have hkI0 : (0 ≤ (k : Int)) = True := eq_true (by omega)
            go_wp2
            refine start_ (n := 13) (S := fun w' => w'.cell? ⟨go, k, none⟩ = some (.slice A1 row.length c1)) (ds := [10, 12]) #[false, false, false, false, false, false, false, false, false, false, false, false, false] (by kernel_rfl) rfl rfl (hcell) (fun hHeld => ?_)
            refine pure_ (i := 0) (N := some 26) (v := ?_) (a' := ?_) #[true, false, false, false, false, false, false, false, false, false, false, false, false] rfl rfl (by kernel_rfl) (fun _ _ _ h => h) (Or.inl ⟨by rfl, ?_⟩) ?_ ?_
            rotate_left
            · intro w'
              go_simp
              with_reducible rfl
            rotate_left
            · simp only [Act.put, List.setIfInBounds_toArray, List.set_cons_zero, List.set_cons_succ, i64_w, i32_w]
              rfl
            refine pure_ (i := 1) (N := some 27) (v := ?_) (a' := ?_) #[true, true, false, false, false, false, false, false, false, false, false, false, false] rfl rfl (by kernel_rfl) (fun _ _ _ h => h) (Or.inl ⟨by rfl, ?_⟩) ?_ ?_
            rotate_left
            · intro w'
              go_simp
              with_reducible rfl
            rotate_left
            · simp only [Act.put, List.setIfInBounds_toArray, List.set_cons_zero, List.set_cons_succ, i64_w, i32_w]
              rfl
            refine pure_ (i := 2) (N := some 28) (v := ?_) (a' := ?_) #[true, true, true, false, false, false, false, false, false, false, false, false, false] rfl rfl (by kernel_rfl) (fun _ _ _ h => h) (Or.inl ⟨by rfl, ?_⟩) ?_ ?_
            rotate_left
            · intro w'
              go_simp
              with_reducible rfl
            rotate_left
            · simp only [Act.put, List.setIfInBounds_toArray, List.set_cons_zero, List.set_cons_succ, i64_w, i32_w]
              rfl
            refine pure_ (i := 3) (N := some 29) (v := ?_) (a' := ?_) #[true, true, true, true, false, false, false, false, false, false, false, false, false] rfl rfl (by kernel_rfl) (fun _ _ _ h => h) (Or.inl ⟨by rfl, ?_⟩) ?_ ?_
            rotate_left
            · intro w'
              go_simp
              with_reducible rfl
            rotate_left
            · simp only [Act.put, List.setIfInBounds_toArray, List.set_cons_zero, List.set_cons_succ, i64_w, i32_w]
              rfl
            refine pure_ (i := 4) (N := some 30) (v := ?_) (a' := ?_) #[true, true, true, true, true, false, false, false, false, false, false, false, false] rfl rfl (by kernel_rfl) (fun _ _ _ h => h) (Or.inl ⟨by rfl, ?_⟩) ?_ ?_
            rotate_left
            · intro w'
              go_simp
              with_reducible rfl
            rotate_left
            · simp only [Act.put, List.setIfInBounds_toArray, List.set_cons_zero, List.set_cons_succ, i64_w, i32_w]
              rfl
            refine pure_ (i := 6) (N := some 32) (v := ?_) (a' := ?_) #[true, true, true, true, true, false, true, false, false, false, false, false, false] rfl rfl (by kernel_rfl) (fun _ _ _ h => h) (Or.inl ⟨by rfl, ?_⟩) ?_ ?_
            rotate_left
            · intro w'
              go_simp
              with_reducible rfl
            rotate_left
            · simp only [Act.put, List.setIfInBounds_toArray, List.set_cons_zero, List.set_cons_succ, i64_w, i32_w]
              rfl
            refine pure_ (i := 7) (N := some 33) (v := ?_) (a' := ?_) #[true, true, true, true, true, false, true, true, false, false, false, false, false] rfl rfl (by kernel_rfl) (fun _ _ _ h => h) (Or.inl ⟨by rfl, ?_⟩) ?_ ?_
            rotate_left
            · intro w'
              go_simp
              with_reducible rfl
            rotate_left
            · simp only [Act.put, List.setIfInBounds_toArray, List.set_cons_zero, List.set_cons_succ, i64_w, i32_w]
              rfl
            refine take_ (i := 5) (N := some 31) (v := ?_) (a' := ?_) #[true, true, true, true, true, true, true, true, false, false, false, false, false] rfl rfl (by kernel_rfl) (fun _ _ _ h => h) (Or.inl ⟨by rfl, ?_⟩) hHeld ?_ ?_
            rotate_left
            · intro w' s0
              go_simp
              with_reducible rfl
            rotate_left
            · simp only [Act.put, List.setIfInBounds_toArray, List.set_cons_zero, List.set_cons_succ, i64_w, i32_w]
              rfl
            refine one_ (i := 8) (N := some 34) #[true, true, true, true, true, true, true, true, true, false, false, false, false] rfl rfl (by kernel_rfl) (by decide) (fun K hK => ?_)
            refine goes_ Try.func55 (by kernel_rfl) rfl #[.pointer (some ⟨g, 0, none⟩), .string s] (by rfl) rfl rfl (by simp only [List.map_toArray, List.map_cons, List.map_nil]; rfl) ?_
            with_reducible refine (table_Id g B (tabAt l0 k j) s wr.drew (HTj.out.same rfl) hsz (by omega) (by simpa using hBj)).mono ?_
            rintro e w2 ⟨rfl, HT2, HB2, HK2⟩
            refine ⟨_, rfl, ?_⟩
            have hg2 : w2.heap[go]? = some (.cells gcells 49 (0, 0)) := HK2.out.2 go gcells _ _ HGB.out (by decide) (by decide)
            have hcell2 : w2.cell? ⟨go, k, none⟩ = some (.slice A1 row.length c1) := by rw [← hcell]; simp only [World.cell?, hg2, HGB.out]
            have HG2 := Aside0.mk hg2
            have hv2 : Kd.R (Kd.int .i64) 3 w2 B (fun q => oki q ∨ w2.heap.size ≤ q) (.slice A1 row.length c1) row := Kd.R_mono (Kd.R_step HV1.out (fun q hq _ => idstep HK2.out (HOKI.out q hq).1)) (fun q h => .inl h)
            have HV2 := Aside0.mk hv2
            have HH2 := Aside0.mk (Kd.H_widen (Kd.H_mono (Kd.H_step HH.out (fun q hq _ _ => idstep HK2.out hq)) (fun q _ => trivial) (ok' := fun _ => True)))
            have HBW2 := Aside0.mk (Nat.le_trans hBj HK2.out.1)
            clear hg2 hv2
            refine hK.out _ _ (hcell2) (fun hHeld => ?_)
            clear hK K
            refine norm_ (a' := ?_) ?_ ?_
            rotate_left
            · show Act.put _ (some 34) _ = _
              simp only [Act.put, List.setIfInBounds_toArray, List.set_cons_zero, List.set_cons_succ, i64_w, i32_w]
              rfl
            refine one_ (i := 9) (N := some 35) #[true, true, true, true, true, true, true, true, true, true, false, false, false] rfl rfl (by kernel_rfl) (by decide) (fun K hK => ?_)
            refine value_ (w1 := ?_) (v := ?_) (by rfl) rfl ?_ ?_
            rotate_left 2
            · go_simp
              constructor
              · rfl
              · rfl
            refine hK.out _ _ (cell_alloc_of hcell2 _) (fun hHeld => ?_)
            clear hK K
            refine norm_ (a' := ?_) ?_ ?_
            rotate_left
            · show Act.put _ (some 35) _ = _
              simp only [Act.put, List.setIfInBounds_toArray, List.set_cons_zero, List.set_cons_succ, i64_w, i32_w]
              rfl
            refine last_ (i := 10) (N := some 36) #[true, true, true, true, true, true, true, true, true, true, true, false, false] rfl rfl (by kernel_rfl) (by decide) (fun K hK => ?_)
            refine Kd.R_append_step (Kd.int .i64) (w0 := w2) B (by rfl) (.tmp 31) (.tmp 35) 49 3 (.int .i64 0) 8 rfl Try.underlying49 info3 rfl (by decide) (by decide) (.slice A1 row.length c1) row (place s (tabAt l0 k j) : Int) [.int .i64 (place s (tabAt l0 k j) : Int)] (fun q => oki q ∨ w2.heap.size ≤ q) (fun _ => False) rfl rfl rfl (fun _ h => h.elim) (fun _ h => .inr h) ?aO (Below.refl _ _) HBW2.out (by omega) ?_
            (case aO => exact HV2.out)
            intro v3 w3 hr3 hb3 hg3 hat3
            obtain ⟨A3, c3, hv3⟩ := Kd.R_slice hr3
            subst hv3
            have hgn : some go ≠ (Value.slice A1 row.length c1).ownBlock := Kd.R_ne HV2.out HG2.out (by decide)
            have hgo2 : go < w2.heap.size := blk_lt HG2.out
            have hg3b := (hg3.block go hgo2 hgn).trans HG2.out
            have hcell3 : w3.cell? ⟨go, k, none⟩ = some (.slice A1 row.length c1) := by rw [← hcell2]; simp only [World.cell?, hg3b, HG2.out]
            have hfr3 : w3.frozen? ⟨go, k, none⟩ = false := frozen_of_row _ _ _ _ _ hg3b
            have HR3 := Aside0.mk hr3
            have HB3 := Aside0.mk hb3
            have HG3 := Aside0.mk hg3
            have HG3B := Aside0.mk hg3b
            clear hr3 hb3 hg3 hg3b hat3 hgn hcell2
            refine hK.out _ _ ?_
            clear hK K
            refine norm_ (a' := ?_) ?_ ?_
            rotate_left
            · show Act.put _ (some 36) _ = _
              simp only [Act.put, List.setIfInBounds_toArray, List.set_cons_zero, List.set_cons_succ, i64_w, i32_w]
              rfl
            refine pure_ (i := 11) (N := some 37) (v := ?_) (a' := ?_) #[true, true, true, true, true, true, true, true, true, true, true, true, false] rfl rfl (by kernel_rfl) (fun _ _ _ h => h) (Or.inl ⟨by rfl, ?_⟩) ?_ ?_
            rotate_left
            · intro w'
              go_simp
              with_reducible rfl
            rotate_left
            · simp only [Act.put, List.setIfInBounds_toArray, List.set_cons_zero, List.set_cons_succ, i64_w, i32_w]
              rfl
            refine last_ (i := 12) (N := none) #[true, true, true, true, true, true, true, true, true, true, true, true, true] rfl rfl (by kernel_rfl) (by decide) (fun K hK => ?_)
            refine skip_ (w1 := ?_) (by rfl) rfl ?_ ?_
            rotate_left
            · go_simp
              rfl
            refine hK.out _ _ ?_
            clear hK K
            refine done_ (by kernel_rfl) ?_

            clear hcell hcell3 hfr3
            go_wp2
            go_roundw
            case measure => simp [intOf]; omega
            case rel =>
              have hr3' := HR3.out
              rw [List.length_append, List.length_singleton] at hr3'
              refine ⟨j + 1, by omega, by go_num, ?_, ?_, ?_⟩
              · exact ⟨by rw [← HRS.out]; exact rows_put HH2.out HV2.out HG3.out hr3' (fun q hq => (HOKI.out q hq).2) hgo2 hrl hlt⟩
              · exact ⟨by rw [← HTS.out]; exact table_put HT2.out HV2.out HG3.out HG3B.out⟩
              · exact ⟨((HBj.out.drew.trans HB2.out).trans HB3.out).setCell (p := ⟨go, k, none⟩) (Kd.S_base HSj.out go rfl) _⟩
          · have hj' : j = l.length := by omega
            subst hj'
            go_wp2
            go_roundw
            case measure => simp [intOf]; omega
            case rel => exact ⟨k + 1, by omega, by go_num, by rw [← rowsAt_end l0 k hlt, HL.out]; exact HSj, by rw [← tabAt_end l0 k hlt, HL.out]; exact HTj, HBj⟩
      · have hk' : k = l0.length := by omega
        subst hk'
        go_wp2
        go_ret
        exact ⟨_, rfl, by simpa [idsAll, HBe.out] using HS.out, by rw [HBe.out]; exact HB.out⟩
  · cases h
end Go.Proofs.Ytnlekganlliikaa.X
-- part XMaker
namespace Go.Proofs.Ytnlekganlliikaa.X
open Go.RowKit Go.Proofs.YtnlekganlliikaaW.PrintWords Go.Proofs.YtnlekganlliikaaW.PrintLast Go.Proofs.YtnlekganlliikaaW.PrintMore
open Go.Maps
set_option linter.unusedVariables false
set_option linter.unusedSimpArgs false
/-- How a row of lists lies in the map: its block's number; -1: nil. -/
def lostR (N : Nat) : Value → Option (DataW Unit × List MemPlace)
  | .slice none 0 0 => some (.lit (.int .i64 (-1)), [])
  | .slice (some ⟨g, 0, none⟩) n c => if n = N ∧ c = N then some (.lit (.int .i64 (g : Int)), []) else none
  | _ => none
theorem lostR_inv {N : Nat} {v : Value} {x : Int} {ps : List MemPlace} (h : lostR N v = some (.lit (.int .i64 x), ps)) : (x = -1 ∧ v = .slice none 0 0) ∨ ∃ g : Nat, x = (g : Int) ∧ v = .slice (some ⟨g, 0, none⟩) N N := by
  unfold lostR at h
  split at h
  · simp only [Option.some.injEq, Prod.mk.injEq, DataW.lit.injEq, Lit.int.injEq, true_and] at h
    exact .inl ⟨h.1.symm, rfl⟩
  · split at h
    · rename_i g n c hc
      obtain ⟨rfl, rfl⟩ := hc
      simp only [Option.some.injEq, Prod.mk.injEq, DataW.lit.injEq, Lit.int.injEq, true_and] at h
      exact .inr ⟨g, h.1.symm, rfl⟩
    · cases h
  · cases h
/-- A row of lists, each read at the world w0. -/
def HeadRow (w0 W : World) (N g : Nat) (ls : List (List ByteArray)) : Prop :=
  ls.length = N ∧ ∃ inner : List Value, W.heap[g]? = some (.cells inner.toArray 34 (0, 0)) ∧ inner.length = N ∧ ∀ (c : Nat) (l : List ByteArray) (v : Value), ls[c]? = some l → inner[c]? = some v → KS.K w0 l [v]
theorem HeadRow.blk {w0 W : World} {N g : Nat} {ls : List (List ByteArray)} (h : HeadRow w0 W N g ls) : g < W.heap.size := let ⟨_, _, hb, _⟩ := h; (Array.getElem?_eq_some_iff.1 hb).1
theorem HeadRow.C {w0 W : World} {N g : Nat} {ls : List (List ByteArray)} (h : HeadRow w0 W N g ls) (hN : N ≤ 1000000) (hb : Below w0.heap.size w0 W) : KS.C W (some ⟨g, 0, none⟩) ls.length ls := by
  obtain ⟨rfl, inner, h1, h2, h3⟩ := h
  refine ⟨rfl, by omega, fun hn => ⟨_, rfl, fun j l hj => ?_⟩⟩
  have hjl : j < inner.length := by rw [h2]; exact (List.getElem?_eq_some_iff.1 hj).1
  have hK := h3 j l inner[j] hj (List.getElem?_eq_getElem hjl)
  refine ⟨[inner[j]], rfl, KS.K_below hb hK, fun i u hu => ?_⟩
  have hi : i = 0 := by
    have := (List.getElem?_eq_some_iff.1 hu).1
    simp at this
    exact this
  subst hi
  have hu' : inner[j] = u := by simpa using hu
  subst hu'
  show W.cell? ((⟨g, 0, none⟩ : Addr).add (j * 1 + 0)) = _
  rw [add0_, Nat.mul_one, Nat.add_zero]
  exact cell_blk h1 (by simp [hjl])
theorem HeadRow.new {w0 W : World} {N : Nat} : HeadRow w0 (W.alloc (.cells (Array.replicate N (.slice none 0 0)) 34)) N W.heap.size (List.replicate N []) := by
  refine ⟨by simp, List.replicate N (.slice none 0 0), ?_, by simp, fun c l v hl hv => ?_⟩
  · rw [List.toArray_replicate]
    exact blk_new W _
  · obtain ⟨_, rfl⟩ := List.getElem?_eq_some_iff.1 hl
    obtain ⟨_, rfl⟩ := List.getElem?_eq_some_iff.1 hv
    rw [List.getElem_replicate, List.getElem_replicate]
    exact strs_nil w0
theorem HeadRow.move {w0 W W' : World} {N g : Nat} {ls : List (List ByteArray)} (h : HeadRow w0 W N g ls) (hh : W'.heap[g]? = W.heap[g]?) : HeadRow w0 W' N g ls := by
  obtain ⟨h0, inner, h1, h2, h3⟩ := h
  exact ⟨h0, inner, hh.trans h1, h2, h3⟩
theorem HeadRow.set {w0 W : World} {N g c : Nat} {ls : List (List ByteArray)} {l : List ByteArray} {v : Value} (h : HeadRow w0 W N g ls) (hK : KS.K w0 l [v]) : HeadRow w0 (W.setCell ⟨g, c, none⟩ v) N g (ls.set c l) := by
  obtain ⟨h0, inner, h1, h2, h3⟩ := h
  refine ⟨by simpa using h0, inner.set c v, ?_, by simpa using h2, fun j l' v' hl hv => ?_⟩
  · rw [heap_set_same h1]; simp
  · rw [List.getElem?_set] at hl hv
    by_cases e : c = j
    · subst e
      rw [if_pos rfl] at hl hv
      split at hl
      · split at hv
        · cases hl; cases hv; exact hK
        · cases hv
      · cases hl
    · rw [if_neg e] at hl hv
      exact h3 j l' v' hl hv
theorem HeadRow.cell {w0 W : World} {N g c : Nat} {ls : List (List ByteArray)} (h : HeadRow w0 W N g ls) (hc : c < N) : ∃ v, W.cell? ⟨g, c, none⟩ = some v ∧ W.frozen? ⟨g, c, none⟩ = false := by
  obtain ⟨h0, inner, h1, h2, h3⟩ := h
  exact ⟨inner[c], cell_blk h1 (by simp [h2, hc]), frozen_of_row _ _ _ _ _ h1⟩

/-- What is lost, by lines. -/
def LostIn (w0 W : World) (B gm N cnt : Nat) (lost : Nat → Option (List (List ByteArray))) : Prop :=
  ∃ (D : DataW Unit) (blk : Nat → Nat), IsMap D ∧ W.ownsMap Try.prog 3 (lostR N) gm cnt D ∧ B ≤ gm ∧
    (∀ line : Nat, line ≤ 1000000 → D.atKey (.int .i64 (line : Int)) (.lit (.int .i64 (-1))) = .lit (.int .i64 (match lost line with | none => -1 | some _ => (blk line : Int)))) ∧
    (∀ line ls, lost line = some ls → B ≤ blk line ∧ HeadRow w0 W N (blk line) ls) ∧
    (∀ line line' ls ls', lost line = some ls → lost line' = some ls' → blk line = blk line' → line = line')
section
variable {w0 W W' : World} {B gm N cnt : Nat} {lost : Nat → Option (List (List ByteArray))}
theorem LostIn.mono (h : LostIn w0 W B gm N cnt lost) {cnt' : Nat} (hc : cnt ≤ cnt') : LostIn w0 W B gm N cnt' lost := by
  obtain ⟨D, blk, h1, h2, h3⟩ := h
  exact ⟨D, blk, h1, h2.mono hc, h3⟩
theorem LostIn.lt (h : LostIn w0 W B gm N cnt lost) : gm < W.heap.size := by
  obtain ⟨D, blk, h1, h2, h3⟩ := h
  exact h2.lt
theorem LostIn.isMap (h : LostIn w0 W B gm N cnt lost) : ∃ es clock, W.heap[gm]? = some (.map es clock) := by
  obtain ⟨D, blk, h1, ⟨es, clock, hb, _⟩, h3⟩ := h
  exact ⟨es, clock, hb⟩
/-- It stays while its own blocks do. -/
theorem LostIn.step (h : LostIn w0 W B gm N cnt lost) (hh : ∀ k, k < W.heap.size → (∀ cells q fr, W.heap[k]? = some (.cells cells q fr) → q = 34) → W'.heap[k]? = W.heap[k]?) : LostIn w0 W' B gm N cnt lost := by
  obtain ⟨D, blk, h1, ⟨es, clock, hb, hF, hs, hD⟩, h3, h4, h5, h6⟩ := h
  refine ⟨D, blk, h1, ⟨es, clock, ?_, hF, hs, hD⟩, h3, h4, fun line ls hl => ⟨(h5 line ls hl).1, (h5 line ls hl).2.move ?_⟩, h6⟩
  · rw [hh gm (Array.getElem?_eq_some_iff.1 hb).1 (fun cells q fr e => by rw [hb] at e; cases e)]; exact hb
  · obtain ⟨_, inner, hi, _⟩ := (h5 line ls hl).2
    exact hh _ (Array.getElem?_eq_some_iff.1 hi).1 (fun cells q fr e => by rw [hi] at e; cases e; rfl)
theorem LostIn.below (h : LostIn w0 W B gm N cnt lost) (hb : Below W.heap.size W W') : LostIn w0 W' B gm N cnt lost := h.step fun k hk _ => hb.block k hk
theorem LostIn.set (h : LostIn w0 W B gm N cnt lost) {g j : Nat} {cs : Array Value} {t : TypeId} (hg : W.heap[g]? = some (.cells cs t (0, 0))) (ht : t ≠ 34) (v : Value) : LostIn w0 (W.setCell ⟨g, j, none⟩ v) B gm N cnt lost :=
  h.step fun k hk hq => heap_set_other (fun e => by subst e; exact ht (hq _ _ _ hg)) v
theorem line_wf {line : Nat} (h : line ≤ 1000000) : (Lit.int .i64 (line : Int)).wf = true := wf_len (by omega)
/-- A look-up. -/
theorem LostIn.look (h : LostIn w0 W B gm N cnt lost) (line : Nat) (hl : line ≤ 1000000) :
    (lost line = none ∧ (Instr.lookup 76 (.map (some gm)) (.int .i64 (line : Int)) false).run Try.prog W = .ok (.slice none 0 0) W) ∨
    (∃ ls g, lost line = some ls ∧ B ≤ g ∧ HeadRow w0 W N g ls ∧ (Instr.lookup 76 (.map (some gm)) (.int .i64 (line : Int)) false).run Try.prog W = .ok (.slice (some ⟨g, 0, none⟩) N N) W) := by
  obtain ⟨D, blk, h1, h2, h3, h4, h5, h6⟩ := h
  have hkey : keyOf Try.prog 3 (.int .i64 (line : Int)) = some (.int .i64 (line : Int)) := keyOf_int_mk Try.underlying3 (line_wf hl)
  obtain ⟨v, ps, hrun, hv⟩ := h2.lookup (int_keyed Try.underlying3) Try.underlying76 (z := .slice none 0 0) (by kernel_rfl) (zd := .lit (.int .i64 (-1))) (zp := []) rfl hkey
  rw [h4 line hl] at hv
  cases hlo : lost line with
  | none =>
    rw [hlo] at hv
    rcases lostR_inv hv with ⟨_, rfl⟩ | ⟨g, hg, _⟩
    · exact .inl ⟨rfl, hrun⟩
    · exact absurd (show (-1 : Int) = (g : Int) from hg) (by omega)
  | some ls =>
    rw [hlo] at hv
    rcases lostR_inv hv with ⟨hg, _⟩ | ⟨g, hg, rfl⟩
    · exact absurd hg (by show ¬ ((blk line : Nat) : Int) = -1; omega)
    · have e : blk line = g := by have hg : ((blk line : Nat) : Int) = (g : Int) := hg; omega
      obtain ⟨h7, h8⟩ := h5 line ls hlo
      rw [e] at h7 h8
      exact .inr ⟨ls, g, rfl, h7, h8, hrun⟩
/-- The look-up at later worlds that know these blocks. -/
theorem LostIn.look_later (h : LostIn w0 W B gm N cnt lost) (line : Nat) (hl : line ≤ 1000000) :
    ∃ v, (∀ W', Below W.heap.size W W' → (Instr.lookup 76 (.map (some gm)) (.int .i64 (line : Int)) false).run Try.prog W' = .ok v W') ∧
      ((lost line = none ∧ v = .slice none 0 0) ∨ (∃ ls g, lost line = some ls ∧ B ≤ g ∧ HeadRow w0 W N g ls ∧ v = .slice (some ⟨g, 0, none⟩) N N)) := by
  obtain ⟨D, blk, h1, h2, h3, h4, h5, h6⟩ := h
  have hkey : keyOf Try.prog 3 (.int .i64 (line : Int)) = some (.int .i64 (line : Int)) := keyOf_int_mk Try.underlying3 (line_wf hl)
  have hstay : ∀ W', Below W.heap.size W W' → W'.ownsMap Try.prog 3 (lostR N) gm cnt D := fun W' hb => by
    obtain ⟨es, clock, hbk, hF, hs, hD⟩ := h2
    exact ⟨es, clock, (hb.block gm (Array.getElem?_eq_some_iff.1 hbk).1).trans hbk, hF, hs, hD⟩
  have hz : ∀ W' : World, (zeroValue 22).run Try.prog W' = .ok (.slice none 0 0) W' := fun W' => by kernel_rfl
  cases hlo : lost line with
  | none =>
    refine ⟨.slice none 0 0, fun W' hb => ?_, .inl ⟨rfl, rfl⟩⟩
    obtain ⟨v, ps, hrun, hv⟩ := (hstay W' hb).lookup (int_keyed Try.underlying3) Try.underlying76 (hz W') (zd := .lit (.int .i64 (-1))) (zp := []) rfl hkey
    rw [h4 line hl, hlo] at hv
    rcases lostR_inv hv with ⟨_, rfl⟩ | ⟨g, hg, _⟩
    · exact hrun
    · exact absurd (show (-1 : Int) = (g : Int) from hg) (by omega)
  | some ls =>
    obtain ⟨h7, h8⟩ := h5 line ls hlo
    refine ⟨.slice (some ⟨blk line, 0, none⟩) N N, fun W' hb => ?_, .inr ⟨ls, blk line, rfl, h7, h8, rfl⟩⟩
    obtain ⟨v, ps, hrun, hv⟩ := (hstay W' hb).lookup (int_keyed Try.underlying3) Try.underlying76 (hz W') (zd := .lit (.int .i64 (-1))) (zp := []) rfl hkey
    rw [h4 line hl, hlo] at hv
    rcases lostR_inv hv with ⟨hg, _⟩ | ⟨g, hg, rfl⟩
    · exact absurd hg (by show ¬ ((blk line : Nat) : Int) = -1; omega)
    · have e : blk line = g := by have hg : ((blk line : Nat) : Int) = (g : Int) := hg; omega
      subst e
      exact hrun
/-- A new row at a line that had none. -/
theorem LostIn.put (h : LostIn w0 W B gm N cnt lost) (line : Nat) (hl : line ≤ 1000000) (hno : lost line = none) (hB : B ≤ W.heap.size) (hcnt : cnt ≤ 1000000000) :
    ∃ W3, (Instr.mapUpdate 76 (.map (some gm)) (.int .i64 (line : Int)) (.slice (some ⟨W.heap.size, 0, none⟩) N N)).run Try.prog (W.alloc (.cells (Array.replicate N (.slice none 0 0)) 34)) = .ok () W3 ∧
      Aside0 (LostIn w0 W3 B gm N (cnt + 1) (fun q => if q = line then some (List.replicate N []) else lost q)) ∧ Aside0 ((W.alloc (.cells (Array.replicate N (.slice none 0 0)) 34)).grownBy W3 (some gm)) := by
  have hlt := h.lt
  obtain ⟨D, blk, h1, h2, h3, h4, h5, h6⟩ := h
  have hkey : keyOf Try.prog 3 (.int .i64 (line : Int)) = some (.int .i64 (line : Int)) := keyOf_int_mk Try.underlying3 (line_wf hl)
  have hR : lostR N (.slice (some ⟨W.heap.size, 0, none⟩) N N) = some (.lit (.int .i64 (W.heap.size : Int)), []) := by simp [lostR]
  obtain ⟨W3, hrun, hown, hg⟩ := (h2.alloc (.cells (Array.replicate N (.slice none 0 0)) 34)).update (int_keyed Try.underlying3) Try.underlying76 (by unfold maxLen; omega) hkey hR
  have hkl : WideAt.IsKeyLit (.int .i64 (line : Int)) := trivial
  refine ⟨W3, hrun, ⟨D.put (.int .i64 (line : Int)) (.lit (.int .i64 (W.heap.size : Int))), fun q => if q = line then W.heap.size else blk q, h1.put _ _, hown, h3, fun q hq => ?_, fun q ls hq => ?_, fun q q' ls ls' hq hq' he => ?_⟩, ⟨hg⟩⟩
  · by_cases e : q = line
    · subst e
      rw [atKey_put_same h1 hkl]; simp
    · rw [atKey_put_other (by intro h; injection h with _ h; omega), h4 q hq]
      simp [e]
  · by_cases e : q = line
    · subst e
      have hls : ls = List.replicate N [] := by simpa using hq.symm
      subst hls
      simp only [if_pos]
      exact ⟨hB, (HeadRow.new (w0 := w0) (W := W)).move (hg.block _ (by simp) (by intro e; injection e with e; omega))⟩
    · simp only [if_neg e] at hq ⊢
      obtain ⟨h7, h8⟩ := h5 q ls hq
      have hbk := h8.blk
      have hne : some (blk q) ≠ some gm := by
        intro e'
        injection e' with e'
        obtain ⟨es, clock, hm, _⟩ := h2
        obtain ⟨_, inner, hi, _⟩ := h8
        rw [e', hm] at hi
        cases hi
      exact ⟨h7, h8.move ((hg.block _ (by simp; omega) hne).trans (heap_alloc_old W _ hbk))⟩
  · by_cases e : q = line <;> by_cases e' : q' = line
    · rw [e, e']
    · simp only [if_pos e, if_neg e'] at he hq'
      have := (h5 q' ls' hq').2.blk
      omega
    · simp only [if_neg e, if_pos e'] at he hq
      have := (h5 q ls hq).2.blk
      omega
    · simp only [if_neg e, if_neg e'] at he hq hq'
      exact h6 q q' ls ls' hq hq' he
/-- A list laid down in a column. -/
theorem LostIn.store (h : LostIn w0 W B gm N cnt lost) (line : Nat) (hl : line ≤ 1000000) {ls : List (List ByteArray)} {g c : Nat} (hls : lost line = some ls) (hlook : (Instr.lookup 76 (.map (some gm)) (.int .i64 (line : Int)) false).run Try.prog W = .ok (.slice (some ⟨g, 0, none⟩) N N) W) {l : List ByteArray} {v : Value} (hK : KS.K w0 l [v]) :
    LostIn w0 (W.setCell ⟨g, c, none⟩ v) B gm N cnt (fun q => if q = line then some (ls.set c l) else lost q) := by
  obtain ⟨D, blk, h1, h2, h3, h4, h5, h6⟩ := h
  have hkey : keyOf Try.prog 3 (.int .i64 (line : Int)) = some (.int .i64 (line : Int)) := keyOf_int_mk Try.underlying3 (line_wf hl)
  obtain ⟨h7, h8⟩ := h5 line ls hls
  have e : blk line = g := by
    obtain ⟨v', ps, hrun, hv⟩ := h2.lookup (int_keyed Try.underlying3) Try.underlying76 (z := .slice none 0 0) (by kernel_rfl) (zd := .lit (.int .i64 (-1))) (zp := []) rfl hkey
    have hrun := (Result.ok.inj (hlook.symm.trans hrun)).1
    rw [h4 line hl, hls, ← hrun] at hv
    have hv : lostR N (.slice (some ⟨g, 0, none⟩) N N) = some (.lit (.int .i64 ((blk line : Nat) : Int)), ps) := hv
    have hg : lostR N (.slice (some ⟨g, 0, none⟩) N N) = some (.lit (.int .i64 (g : Int)), []) := by simp [lostR]
    have hq := (Prod.mk.inj (Option.some.inj (hg.symm.trans hv))).1
    have hq2 : (g : Int) = ((blk line : Nat) : Int) := (Lit.int.inj (DataW.lit.inj hq)).2
    clear hq hg hv hrun
    omega
  subst e
  have hmb : gm ≠ blk line := by
    intro e'
    obtain ⟨es, clock, hm, _⟩ := h2
    obtain ⟨_, inner, hi, _⟩ := h8
    rw [← e', hm] at hi
    cases hi
  refine ⟨D, blk, h1, ?_, h3, fun q hq => ?_, fun q ls' hq => ?_, fun q q' ls1 ls2 hq hq' he => ?_⟩
  · obtain ⟨es, clock, hb, hF, hs, hD⟩ := h2
    exact ⟨es, clock, (heap_set_other hmb v).trans hb, hF, hs, hD⟩
  · rw [h4 q hq]
    by_cases e : q = line
    · subst e; rw [hls]; simp
    · simp [e]
  · by_cases e : q = line
    · subst e
      have : ls' = ls.set c l := by simpa using hq.symm
      subst this
      exact ⟨h7, h8.set hK⟩
    · simp only [if_neg e] at hq
      obtain ⟨h9, h10⟩ := h5 q ls' hq
      exact ⟨h9, h10.move (heap_set_other (fun e' => e (h6 q line ls' ls hq hls e')) v)⟩
  · have f : ∀ q ls1, (if q = line then some (ls.set c l) else lost q) = some ls1 → ∃ ls2, lost q = some ls2 := by
      intro q ls1 hq
      by_cases e : q = line
      · subst e; exact ⟨ls, hls⟩
      · simp only [if_neg e] at hq; exact ⟨ls1, hq⟩
    obtain ⟨a, ha⟩ := f q ls1 hq
    obtain ⟨b, hb⟩ := f q' ls2 hq'
    exact h6 q q' a b ha hb he
theorem LostIn.made (w0 : World) (W : World) (N : Nat) (hB : B ≤ W.heap.size) : LostIn w0 (W.alloc (.map #[] 0)) B W.heap.size N 0 (fun _ => none) :=
  ⟨.map [], fun _ => 0, isMap_empty, World.ownsMap_made W _ _ _, hB, fun line _ => rfl, fun line ls h => by simp at h, fun line line' ls ls' h => by simp at h⟩
end
end Go.Proofs.Ytnlekganlliikaa.X
-- part XShelf
namespace Go.Proofs
open Go.Shelf
def Try.lays169_ren : Go.Shelf.Ren := ⟨fun | 169 => 41 | n => n, fun | 70 => 64 | 9 => 9 | 0 => 0 | 72 => 67 | 37 => 65 | 127 => 110 | 3 => 3 | 5 => 5 | n => n, fun | n => n⟩
theorem Try.lays169 : Go.Proofs.Lays.n169 Try.prog Try.lays169_ren := {
  mixed := by kernel_rfl
  f169 := Try.func41.trans (congrArg some (by kernel_rfl))
  t0 := Try.underlying0
  a0 := Try.isAgg0
  z0 := Try.sizeOf0
  v0 := Try.zeroValue0
  t3 := Try.underlying3
  a3 := Try.isAgg3
  z3 := Try.sizeOf3
  v3 := Try.zeroValue3
  t9 := Try.underlying9
  a9 := Try.isAgg9
  z9 := Try.sizeOf9
  v9 := Try.zeroValue9
  t37 := Try.underlying65
  a37 := Try.isAgg65
  z37 := Try.sizeOf65
  v37 := Try.zeroValue65
  t70 := Try.underlying64
  a70 := Try.isAgg64
  z70 := Try.sizeOf64
  v70 := Try.zeroValue64
  t72 := Try.underlying67
  a72 := Try.isAgg67
  z72 := Try.sizeOf67
  v72 := Try.zeroValue67
  t127 := Try.underlying110
  a127 := Try.isAgg110
  z127 := Try.sizeOf110
  v127 := Try.zeroValue110 }
theorem Try.Builder_Extra_169 : Builder.Extra Try.prog Try.lays169_ren := {
  sizeBuilder := by kernel_rfl
  liesBuilder := by kernel_rfl
  t5 := Try.underlying5
  a5 := Try.isAgg5
  z5 := Try.sizeOf5
  v5 := Try.zeroValue5
  infoByte := by kernel_rfl
  cellsByte := by kernel_rfl
  sizeByte := by kernel_rfl
  neB5 := by decide }
open Go.RowKit in
/-- (*strings.Builder).String: "String returns the accumulated string.": WHATEVER THE BUILDER HOLDS. (LAID: no walk: one application.) -/
theorem Try.Builder_String_any (B b : Nat) (l : List UInt8) (w : World) (h : Lib.IsBuilder 67 5 B b (Lib.byteCells l) w) (hBw : B ≤ w.heap.size) :
    Calls Try.prog 41 #[.pointer (some ⟨b, 0, none⟩)] w fun e w' => e = .returned (.string ⟨l.toArray⟩) ∧ Below B w w' := Any.Builder_String_any Try.lays169 Try.Builder_Extra_169 B b l w h hBw
def Try.lays143_ren : Go.Shelf.Ren := ⟨fun | 143 => 79 | 219 => 86 | 217 => 92 | 225 => 93 | 224 => 94 | 267 => 95 | 266 => 102 | 314 => 103 | n => n, fun | 9 => 9 | 3 => 3 | 4 => 4 | 5 => 5 | 46 => 142 | 146 => 150 | 51 => 93 | n => n, fun | 1 => 0 | n => n⟩
theorem Try.lays143 : Go.Proofs.Lays.n143 Try.prog Try.lays143_ren := {
  mixed := by kernel_rfl
  f143 := Try.func79.trans (congrArg some (by kernel_rfl))
  f217 := Try.func92.trans (congrArg some (by kernel_rfl))
  f219 := Try.func86.trans (congrArg some (by kernel_rfl))
  f224 := Try.func94.trans (congrArg some (by kernel_rfl))
  f225 := Try.func93.trans (congrArg some (by kernel_rfl))
  f266 := Try.func102.trans (congrArg some (by kernel_rfl))
  f267 := Try.func95.trans (congrArg some (by kernel_rfl))
  f314 := Try.func103.trans (congrArg some (by kernel_rfl))
  t3 := Try.underlying3
  a3 := Try.isAgg3
  z3 := Try.sizeOf3
  v3 := Try.zeroValue3
  t4 := Try.underlying4
  a4 := Try.isAgg4
  z4 := Try.sizeOf4
  v4 := Try.zeroValue4
  t5 := Try.underlying5
  a5 := Try.isAgg5
  z5 := Try.sizeOf5
  v5 := Try.zeroValue5
  t9 := Try.underlying9
  a9 := Try.isAgg9
  z9 := Try.sizeOf9
  v9 := Try.zeroValue9
  t46 := Try.underlying142
  a46 := Try.isAgg142
  z46 := Try.sizeOf142
  v46 := Try.zeroValue142
  t51 := Try.underlying93
  a51 := Try.isAgg93
  z51 := Try.sizeOf93
  v51 := Try.zeroValue93
  t146 := Try.underlying150
  a146 := Try.isAgg150
  z146 := Try.sizeOf150
  v146 := Try.zeroValue150
  g1 := by kernel_rfl }
open Go.RowKit Go.Lib in
/-- strings.Index: "Index returns the index of the first instance of substr in s, or -1 if substr is not present in s.": AT A substr OF ONE BYTE c: IT RETURNS 'Lib.indexByte s c'; the world is as it was. (LAID: no walk: one application.) -/
theorem Try.strings_Index_one (s : ByteArray) (c : UInt8) (w : World) :
    Calls Try.prog 79 #[.string s, .string ⟨#[c]⟩] w fun e w' => e = .returned (.int .i64 (Lib.indexByte s.data.toList c)) ∧ w' = w := Any.strings_Index_one Try.lays143 s c w
def Try.lays212_ren : Go.Shelf.Ren := ⟨fun | 212 => 91 | 263 => 100 | 264 => 101 | n => n, fun | 46 => 142 | 51 => 93 | 146 => 150 | 53 => 152 | 148 => 153 | n => n, fun | n => n⟩
theorem Try.lays212 : Go.Proofs.Lays.n212 Try.prog Try.lays212_ren := {
  mixed := by kernel_rfl
  f212 := Try.func91.trans (congrArg some (by kernel_rfl))
  f263 := Try.func100.trans (congrArg some (by kernel_rfl))
  f264 := Try.func101.trans (congrArg some (by kernel_rfl))
  t46 := Try.underlying142
  a46 := Try.isAgg142
  z46 := Try.sizeOf142
  v46 := Try.zeroValue142
  t51 := Try.underlying93
  a51 := Try.isAgg93
  z51 := Try.sizeOf93
  v51 := Try.zeroValue93
  t53 := Try.underlying152
  a53 := Try.isAgg152
  z53 := Try.sizeOf152
  v53 := Try.zeroValue152
  t146 := Try.underlying150
  a146 := Try.isAgg150
  z146 := Try.sizeOf150
  v146 := Try.zeroValue150
  t148 := Try.underlying153
  a148 := Try.isAgg153
  z148 := Try.sizeOf153
  v148 := Try.zeroValue153 }
open Go.RowKit Go.Lib in
/-- math/bits.Mul: "Mul returns the full-width product of x and y": on a machine of 64 bits: Mul64's. (LAID: no walk: one application.) -/
theorem Try.bits_Mul (x y : Nat) (hx : x < 18446744073709551616) (hy : y < 18446744073709551616) (w : World) :
    Calls Try.prog 91 #[.int .u64 x, .int .u64 y] w fun e w' => e = .returned (.tuple #[.int .u64 ((x * y / 18446744073709551616 : Nat) : Int), .int .u64 ((x * y % 18446744073709551616 : Nat) : Int)]) ∧ w' = w := Any.bits_Mul Try.lays212 x y hx hy w
end Go.Proofs
