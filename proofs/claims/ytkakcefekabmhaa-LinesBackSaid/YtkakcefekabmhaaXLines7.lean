/-
  sennitlaw01.awake: by hand.
-/
import Derived.Test.YtkakcefekabmhaaXMn1
import Derived.Test.YtkakcefekabmhaaXLn1
import Derived.Test.YtkakcefekabmhaaXLinesMath2
import Derived.Lib.SmallJoins
namespace Go.Proofs.Ytkakcefekabmhaa.X
open Go.RowKit Go.Proofs.YtkakcefekabmhaaW.PrintWords Go.Proofs.YtkakcefekabmhaaW.PrintLast Go.Proofs.YtkakcefekabmhaaW.PrintMore
set_option linter.unusedVariables false
set_option linter.unusedSimpArgs false

/-- A block of known cells, read as a row. -/
theorem C_blk {α : Type} {d : Kd α} {W : World} {g : Nat} {t : TypeId} {fr : Nat × Nat} {xs : List α} {inner : List Value} (h : W.heap[g]? = some (.cells inner.toArray t fr)) (hr : Reps (d.K W) d.sz xs inner) (hl : xs.length ≤ 9223372036854775807) : d.C W (some ⟨g, 0, none⟩) xs.length xs := by
  refine ⟨rfl, hl, fun _ => ⟨_, rfl, fun j p hj => ⟨_, ?_, hr.2 j p hj, fun i u hu => ?_⟩⟩⟩
  · have hjl := (List.getElem?_eq_some_iff.1 hj).1
    have h1 : j * d.sz + d.sz ≤ inner.length := by rw [hr.1, ← Nat.succ_mul]; exact Nat.mul_le_mul_right _ hjl
    rw [List.length_take, List.length_drop]; omega
  · have hil := (List.getElem?_eq_some_iff.1 hu).1
    rw [List.length_take] at hil
    rw [List.getElem?_take_of_lt (by omega), List.getElem?_drop] at hu
    have : W.cell? ⟨g, j * d.sz + i, none⟩ = some u := by rw [cell_of_row W g _ _ t fr h]; simpa using hu
    obtain ⟨q, hq⟩ : ∃ q, j * d.sz + i = q := ⟨_, rfl⟩
    rw [hq] at this ⊢
    by_cases e : q = 0
    · subst e; simpa [Addr.add] using this
    · simpa [Addr.add, e] using this

theorem may_one : lines_May.f 9 [txt [97, 10], txt [98]] = some true := by decide +kernel
theorem may_two : lines_May.f 9 [txt []] = some false := by decide +kernel
theorem join_two : lines_Join.f 9 [[txt [97, 10], txt [98]], [txt [97, 10], txt [98]]] = some [97, 10, 98, 97, 10, 98] := by decide +kernel
theorem open_one : lines_Open.f [txt [97, 10], txt [98]] = some true := by decide +kernel
theorem split_one : lines_Split.f [97, 10, 98] = some [txt [97, 10], txt [98]] := by
  rw [lines_Split.f, if_pos (by decide), linesT, show Lib.bytesOf [97, 10, 98] = [97, 10, 98] by decide, linesU_cons (by simp), show cutU [97, 10, 98] = 2 by decide, show List.drop 2 [(97 : UInt8), 10, 98] = [98] from rfl, linesU_cons (by simp), show cutU [(98 : UInt8)] = 1 by decide, show List.drop 1 [(98 : UInt8)] = [] from rfl, linesU_nil]
  rfl

set_option maxRecDepth 100000 in
set_option maxHeartbeats 4000000 in
theorem awake01_calls (w : World) : Calls Try.prog 25 #[] w fun e w' => e = .returned (.bool true) ∧ Below w.heap.size w w' := by
  have hcv := Joins.run_convert_bytes_const_at w 41 5 #[.int .u8 97, .int .u8 10, .int .u8 98] 3 3 w.heap.size rfl Try.underlying41 Try.underlying5
  go_enter Try.func25, Try.ntmps25
  go_wp2_with fail
  have hnew : (w.alloc (.cells #[.int .u8 97, .int .u8 10, .int .u8 98] 5 (3, 4))).heap[w.heap.size]? = some (.cells #[.int .u8 97, .int .u8 10, .int .u8 98] 5 (3, 4)) := World.alloc_heap_new _ _
  have hC0 := C_blk (d := Kd.int .u8) (xs := [97, 10, 98]) (inner := [.int .u8 97, .int .u8 10, .int .u8 98]) hnew (Reps.one rfl (Reps.one rfl (Reps.one rfl (Reps.none _ _)))) (by decide)
  refine (lines_Split.calls (some ⟨w.heap.size, 0, none⟩) 3 [97, 10, 98] _ _ hC0 (by decide) split_one).mono ?_
  rintro e w1 ⟨v, rfl, ho, hb⟩
  obtain ⟨Ao, co, rfl⟩ := Kd.R_slice ho
  have HB : Aside0 (Below w.heap.size w w1) := ⟨((Below.refl _ w).alloc (Nat.le_refl _) _).trans (hb.mono (by simp))⟩
  have HC := Aside0.mk (Kd.R_reads' ho).2.2
  have HL := Aside0.mk (Kd.R_reads' ho).2.1
  clear ho hb hC0 hnew hcv
  obtain ⟨ad, rfl, c0⟩ := Kd.at_string HC.out 0 (by decide) (by decide)
  obtain ⟨ad', e', c1⟩ := Kd.at_string HC.out 1 (by decide) (by decide)
  obtain rfl : ad = ad' := Option.some.inj e'
  clear e'
  rw [show (0 : Int).toNat = 0 from rfl, Addr.add_zero', show rdOf ByteArray.empty [txt [97, 10], txt [98]] 0 = ⟨#[97, 10]⟩ from rfl] at c0
  rw [show (1 : Int).toNat = 1 from rfl, show rdOf ByteArray.empty [txt [97, 10], txt [98]] 1 = ⟨#[98]⟩ from rfl] at c1
  simp only [Addr.add, Nat.reduceEqDiff, ↓reduceIte] at c1
  have b0 : ((97 : UInt8) == 97) = true := rfl
  go_wp2_with fail
  refine (lines_Open.calls (some ad) co [txt [97, 10], txt [98]] true _ HC.out HL.out open_one).mono ?_
  rintro e w2 ⟨rfl, ⟨n2, rfl⟩⟩
  go_wp2_with fail
  refine (lines_May.calls 9 (some ad) co [txt [97, 10], txt [98]] true _ (Kd.C_drewN HC.out _) HL.out may_one).mono ?_
  rintro e w3 ⟨rfl, ⟨n3, rfl⟩⟩
  go_wp2_with fail
  have hC3 := fun (k : Nat) => Kd.C_drewN HC.out k
  have hblk := World.alloc_heap_new (w1.drewN (n2 + n3)) (.cells #[.slice (some ad) 2 co, .slice (some ad) 2 co] 42)
  have hbl := Below.alloc (Below.refl (w1.drewN (n2 + n3)).heap.size (w1.drewN (n2 + n3))) (Nat.le_refl _) (.cells #[.slice (some ad) 2 co, .slice (some ad) 2 co] 42)
  have hK : (Kd.slice 9 Kd.string).K ((w1.drewN (n2 + n3)).alloc (.cells #[.slice (some ad) 2 co, .slice (some ad) 2 co] 42)) [txt [97, 10], txt [98]] [.slice (some ad) 2 co] := ⟨some ad, co, rfl, HL.out, Kd.C_below (Kd.C_drewN HC.out _) hbl⟩
  have hC4 := C_blk (d := Kd.slice 9 Kd.string) (xs := [[txt [97, 10], txt [98]], [txt [97, 10], txt [98]]]) (inner := [.slice (some ad) 2 co, .slice (some ad) 2 co]) hblk (Reps.one hK (Reps.one hK (Reps.none _ _))) (by decide)
  refine (lines_Join.calls 9 _ 2 _ _ _ hC4 (by decide) join_two).mono ?_
  rintro e w4 ⟨v4, rfl, ho4, hb4⟩
  obtain ⟨A4, c4, rfl⟩ := Kd.R_slice ho4
  have hcv4 := own_string (P := Try.prog) Try.underlying41 Try.underlying5 Try.underlying9 (Kd.own_of_R ho4)
  have HB4 : Aside0 (Below w.heap.size w w4) := ⟨below_step (by repeat (first | (with_reducible first | exact HB.out | apply below_alloc | apply pw_below_drewN | apply below_drew1) | exact HB.out)) hb4⟩
  clear hblk hbl hK hC4 ho4 hb4 hC3 HC HL c0 c1 HB
  replace hcv4 : Sem.run Try.prog (convert 41 9 (.slice A4 6 c4)) w4 = .ok (.string ⟨#[97, 10, 98, 97, 10, 98]⟩) w4 := hcv4.trans (by rw [show strOfNums [97, 10, 98, 97, 10, 98] = ⟨#[97, 10, 98, 97, 10, 98]⟩ by decide +kernel])
  go_wp2_with fail
  have hblk := World.alloc_heap_new w4 (.cells #[.string ⟨#[]⟩] 9)
  have hC5 := C_blk (d := Kd.string) (xs := [txt []]) (inner := [.string ⟨#[]⟩]) hblk (Reps.one rfl (Reps.none _ _)) (by decide)
  refine (lines_May.calls 9 _ 1 [txt []] false _ hC5 (by decide) may_two).mono ?_
  rintro e w5 ⟨rfl, ⟨n5, rfl⟩⟩
  go_wp2
  go_ret
  exact ⟨rfl, pw_below_drewN (HB4.out.alloc HB4.out.size _) _⟩

def awake01.f : Option Bool := some true
theorem awake01.calls (r : Bool) (w : World) (h : awake01.f = some r) : Calls Try.prog 25 #[] w fun e w' => e = .returned (.bool r) ∧ Below w.heap.size w w' := by
  have h := Option.some.inj h
  subst h
  exact awake01_calls w
end Go.Proofs.Ytkakcefekabmhaa.X
