/- Parts of one proof. -/
import Derived.Test.YthcnfflhejogfaaDoorBApplyNothing5
import Derived.IntWalk
import Derived.Lib.Strings
import Derived.BigRegion
import Derived.WalkMore
import Derived.Handy
import Derived.Lib.SliceRun
import Derived.Lib.Hide
import Derived.Outline
import Derived.OpenShut
import Derived.ProofKit
import Derived.Deep.Slices
import Derived.SizedLaws
import Derived.Lib.SmallJoins
import Derived.RangeFuncNested
import Derived.RangeFuncBound
import Derived.RangeFuncCalls
import Derived.RangeFuncLeaves
import Derived.RangeFuncOwn
import Derived.Shelf.Strings.Builder1
import Derived.Shelf.Strings.Builder2
import Derived.Shelf.Strings.Trim
import Derived.Shelf.Small.Utf8
import Derived.Shelf.Small.Strs
import Derived.Shelf.Strings.BuilderF
import Derived.Shelf.Strings.BuilderK
import Derived.Shelf.Utf8.RuneCount
import Derived.Shelf.Strings.Builder2Cap
import Derived.Shelf.Strings.Search1
import Derived.Shelf.Strings.Search2
import Derived.Shelf.Strings.Search3
import Derived.Shelf.Strings.Count
import Derived.Shelf.LaysM
import Derived.Shelf.Strings.Shaped
import Derived.Shelf.Strings.Split
import Derived.Shelf.Strings.Replace
import Derived.Shelf.Strings.SplitShaped
import Derived.Shelf.Unicode.Decode
import Derived.Shelf.Strings.Runes
import Derived.Shelf.Strings.RuneCount
import Derived.Shelf.Strings.AsciiSet
import Derived.Shelf.Unicode.DecodeSlow
import Derived.Shelf.Unicode.DecodeAny
import Derived.Shelf.Unicode.DecodeLast
import Derived.Shelf.Strings.BuilderCap
import Derived.Shelf.Slices.Equal
import Derived.Shelf.Slices.Empties2
import Derived.Test.YthcnfflhejogfaaDoorProg
import Derived.Shelf.Strings.SlTrimAscii
set_option linter.unusedVariables false
set_option linter.unusedSimpArgs false
set_option maxRecDepth 100000
set_option maxHeartbeats 8000000
namespace Go.Proofs.YthcnfflhejogfaaDoor.X
open Go.RowKit YthcnfflhejogfaaDoorW.PrintWords YthcnfflhejogfaaDoorW.PrintLast YthcnfflhejogfaaDoorW.PrintMore
attribute [local go_sem] max2_int min2_int max_two min_two max_three min_three max_four min_four
mutual
def sennitref20_Table.l0:Nat→List ByteArray→List (List ByteArray)→List (List Int)→List (List Int)→Int→Option ((List (S57)) × Int)
  | 0,_,_,_,_,_=>none
  | k+1,x0,x1,x8,x9,x10=>if x10 < (x1.length:Int) then (if 0 < (x8.length:Int) then (if 0≤(wrap64 (x10+1)) then (if (wrap64 (x10+1)) < (x8.length:Int) then ((sennitref03_Match.f k (rd_L13 x8 0) (rd_L13 x8 (wrap64 (x10+1)))).bind fun t134=>(if x9.length < 5864062014805 then (sennitref20_Table.l0 k x0 x1 x8 (x9 ++ [t134]) (wrap64 (x10+1))) else (none))) else (none)) else (none)) else (none)) else (sennitref20_Table.l1 k x0 x1 x9 ([]:List (S57)) 0)
def sennitref20_Table.l1:Nat→List ByteArray→List (List ByteArray)→List (List Int)→List (S57)→Int→Option ((List (S57)) × Int)
  | 0,_,_,_,_,_=>none
  | k+1,x0,x1,x9,x11,x12=>if x12≤(x0.length:Int) then ((sennitref20_ahead.f k x1 x9 x12).bind fun bt140=>(if bt140.2=0 then (if x11.length+bt140.1.length < 4398046511104 then ((some (x11 ++ bt140.1:List (S57))).bind fun y144=>(if x12=(x0.length:Int) then (some (y144,0)) else (sennitref20_Table.l2 k x0 x1 x9 y144 x12 (⟨#[]⟩:ByteArray) 0))) else (none)) else (some (([]:List (S57)),bt140.2)))) else (some (x11,0))
def sennitref20_Table.l2:Nat→List ByteArray→List (List ByteArray)→List (List Int)→List (S57)→Int→ByteArray→Int→Option ((List (S57)) × Int)
  | 0,_,_,_,_,_,_,_=>none
  | k+1,x0,x1,x9,x11,x12,x15,x16=>if x16 < (x1.length:Int) then (if 0≤x16 then (if x16 < (x9.length:Int) then (if 0≤x12 then (if x12 < ((rd_L13 x9 x16).length:Int) then (if (rd (rd_L13 x9 x16) x12) ≥ 0 then (if x15.size+1≤9223372036854775807 then (sennitref20_Table.l2 k x0 x1 x9 x11 x12 (x15 ++ (⟨#[32]⟩:ByteArray)) (wrap64 (x16+1))) else (none)) else (if x15.size+1≤9223372036854775807 then (sennitref20_Table.l2 k x0 x1 x9 x11 x12 (x15 ++ (⟨#[43]⟩:ByteArray)) (wrap64 (x16+1))) else (none))) else (none)) else (none)) else (none)) else (none)) else (if 0≤x12 then (if x12 < (x0.length:Int) then (if x11.length < 4398046511104 then (sennitref20_Table.l1 k x0 x1 x9 (x11 ++ [(⟨x15,rdOf ByteArray.empty x0 x12⟩:S57)]) (wrap64 (x12+1))) else (none)) else (none)) else (none))
end
def sennitref20_Table.f (k:Nat) (l0:List ByteArray) (l1:List (List ByteArray)):Option ((List (S57)) × Int):=(sennitref20_wrong.f k l0 l1).bind fun t122=>(if t122=0 then ((some (([l0]:List (List ByteArray)):List (List ByteArray))).bind fun y123=>(if y123.length+l1.length < 5864062014805 then ((sennitref02_All.f k (y123 ++ l1)).bind fun t129=>(sennitref20_Table.l0 k l0 l1 t129 ([]:List (List Int)) 0)) else (none))) else (some (([]:List (S57)),t122)))
def sennitref20_Table.T11:Bool × List (List Nat × List Nat):=(true,[([],[]),([],[]),([1],[1]),([2],[2]),([],[]),([],[]),([5],[5]),([4,6],[4,6]),([7],[7]),([3,8],[3,8]),([9],[9]),([0,10,9],[0,10]),([11,11,0,1,2,3,4,5,6,7,8,9,10,11],[0,11])])
def sennitref20_Table.B11:List Nat:=[0,0,2,6,0,0,32,112,240,510,1022,2047,4095]
theorem sennitref20_Table.tab11:rtab .any (opsOf Tryd.f23 11)=sennitref20_Table.T11:=by kernel_rfl
theorem sennitref20_Table.bits11:waitsOk sennitref20_Table.T11.2 sennitref20_Table.B11=true:=by kernel_rfl
theorem sennitref20_Table.calls (k:Nat) (P0_:Nat→Prop) (A0:Option Addr) (c0:Nat) (l0:List ByteArray) (P1_:Nat→Prop) (A1:Option Addr) (c1:Nat) (l1:List (List ByteArray)) (r1:List (S57)) (r2:Int) (w:World) (hs0:Kd.V Kd.string 9 w w.heap.size (fun k_=>P0_ k_) (.slice A0 l0.length c0) l0) (hs1:Kd.V (Kd.slice 9 Kd.string) 23 w w.heap.size (fun k_=>P1_ k_) (.slice A1 l1.length c1) l1) (h:sennitref20_Table.f k l0 l1=some (r1,r2)) :
    Calls Tryd.prog 23 #[.slice A0 l0.length c0, .slice A1 l1.length c1] w fun e w' => ∃ v0_:Value,e = .returned (.tuple #[v0_, .int .i64 r2])∧Kd.R k57 57 w' w.heap.size (fun k_=>(w.heap.size≤k_)) v0_ r1∧Below w.heap.size w w':=by
 have hu57:=Tryd.underlying57;have HO0:=Aside0.mk (show Kd.V Kd.string 9 w w.heap.size (fun k_=>((P0_ k_∨P1_ k_)∨w.heap.size≤k_)) (.slice A0 l0.length c0) l0 from Kd.V_mono hs0 (fun k_ hk => .inl (.inl hk)));have HO1:=Aside0.mk (show Kd.V (Kd.slice 9 Kd.string) 23 w w.heap.size (fun k_=>((P0_ k_∨P1_ k_)∨w.heap.size≤k_)) (.slice A1 l1.length c1) l1 from Kd.V_mono hs1 (fun k_ hk => .inl (.inr hk)));have HB:=Aside0.mk (Below.refl w.heap.size w);have H:=h;(rw[sennitref20_Table.f] at H);clear h;replace H:=Option.bind_eq_some_iff.mp H;obtain⟨t122,A30,H⟩:=H;(try dsimp only at H);have A3:=Aside0.mk A30;clear A30
 by_cases c4:t122=0
 ·
  (rw[if_pos c4] at H);have c4b0:(t122 == 0)=true:=beq_iff_eq.mpr c4;have c4b1:(t122 != 0)=false:=bne_eq_false_iff_eq.mpr c4;clear c4;obtain⟨y123,hy123⟩ : ∃ y_:List (List ByteArray),y_=(([l0]:List (List ByteArray))):=⟨_,rfl⟩;((try rw[Option.bind_some] at H);rw[← hy123] at H);have Ny123:=Aside0.mk hy123;clear hy123
  by_cases c5:y123.length+l1.length < 5864062014805
  ·
   (rw[if_pos c5] at H);have LMc5:=Aside0.mk c5;clear c5;obtain⟨y126,hy126⟩ : ∃ y_:List (List ByteArray),y_=(y123 ++ l1):=⟨_,rfl⟩;((try rw[Option.bind_some] at H);rw[← hy126] at H);have Ny126:=Aside0.mk hy126;clear hy126;replace H:=Option.bind_eq_some_iff.mp H;obtain⟨t129,A60,H⟩:=H;(try dsimp only at H);have A6:=Aside0.mk A60;clear A60;have H':=Aside0.mk H;clear H;go_enter Tryd.func23,Tryd.ntmps23
   (go_wp2_with (first|((with_reducible refine gate_callee (f:=45) rfl ?_);refine goesL_ (some 19) rfl rfl Tryd.func45 (by kernel_rfl) rfl #[.slice A0 l0.length c0, .slice A1 l1.length c1] rfl am_ ?_;(with_reducible refine(sennitref20_wrong.calls k _ _ l0 _ _ l1 t122 _ ?side1 ?side2 ?side3 ?side4 A3.out).mono ?_);(case side1=>repeat(first|exact(Kd.V_reads' HO0.out).2.2|(with_reducible refine Kd.C_alloc ?_ _)|(with_reducible refine Kd.C_drewN ?_ _)|(with_reducible refine Kd.C_drew ?_)));(case side2=>exact(Kd.V_reads' HO0.out).2.1);(case side3=>repeat(first|exact(Kd.V_reads' HO1.out).2.2|(with_reducible refine Kd.C_alloc ?_ _)|(with_reducible refine Kd.C_drewN ?_ _)|(with_reducible refine Kd.C_drew ?_)));(case side4=>exact(Kd.V_reads' HO1.out).2.1);rintro e w' ⟨rfl,⟨nd,rfl⟩⟩;refine⟨_,rfl,?_⟩)|((with_reducible refine gate_dst (N:=24) rfl ?_);refine Kd.N_lit (Kd.slice 9 Kd.string) _ 23 ?hg (N':=24) ?hd (xs:=([l0]:List (List ByteArray))) (inner:=[.slice A0 l0.length c0]) (ok:=(fun k_=>((P0_ k_∨P1_ k_)∨w.heap.size≤k_))) (okp:=(fun k_=>((P0_ k_∨P1_ k_)∨w.heap.size≤k_))) ?hr ?hp (fun _ hk=>hk) ((show ∀ k_,w.heap.size≤k_→(fun k_=>((P0_ k_∨P1_ k_)∨w.heap.size≤k_)) k_ from fun k_ hk=>(.inr (Nat.le_trans (bsz bel_) hk))) _ (Nat.le_refl _)) (Below.refl _ _) (Nat.le_refl _) (by simp) ?_;(case hd=>rfl);(case hg=>rfl);(case hr=>first|(go_simp;done)|(go_simp;rfl));(case hp=>first|exact(Reps.one (show Kd.FK (Kd.slice 9 Kd.string) _ _ l0 [.slice A0 l0.length c0] from (Kd.FK_slice_mk (Kd.V_reads' (Kd.V_mono (ok':=(fun k_=>((P0_ k_∨P1_ k_)∨w.heap.size≤k_))) (HO0.out) (fun k_ hk=>hk))).2.1 (Kd.V_F (Kd.V_mono (ok':=(fun k_=>((P0_ k_∨P1_ k_)∨w.heap.size≤k_))) (HO0.out) (fun k_ hk=>hk))))) (Reps.none _ _))|exact(Reps.one (show Kd.FK (Kd.slice 9 Kd.string) _ _ l0 [.slice A0 l0.length c0] from (Kd.FK_slice_mk (Kd.V_reads' (Kd.V_mono (ok':=(fun k_=>((P0_ k_∨P1_ k_)∨w.heap.size≤k_))) (HO0.out) (fun k_ hk=>hk))).2.1 (Kd.V_F (Kd.V_mono (ok':=(fun k_=>((P0_ k_∨P1_ k_)∨w.heap.size≤k_))) (Kd.V_drewN HO0.out _) (fun k_ hk=>hk))))) (Reps.none _ _)));intro v124 w7 ho8 hb hg_ hnew_;clear hg_ hnew_;(first|rw[← Ny123.out] at ho8|(simp only[Int.reduceToNat] at ho8;rw[← Ny123.out] at ho8));replace HO0:=Aside0.mk (Kd.V_elder' (pV_ HO0.out) (Kd.N_base (nb_ ho8)) hb);replace HO1:=Aside0.mk (Kd.V_elder' (pV_ HO1.out) (Kd.N_base (nb_ ho8)) hb);have HO125:=Aside0.mk (Kd.N_lower ho8 (bsz bel_));replace HB:=Aside0.mk (bst bel_ hb);clear hb ho8)|((with_reducible refine gate_builtin (b := .append) (xs:=#[.tmp 25, .tmp 26]) rfl ?_);at_builtin;refine Kd.N_append_rows (Kd.slice 9 Kd.string) (w0:=w) w.heap.size rfl (.tmp 25) (.tmp 26) 34 23 (.slice none 0 0) 24 rfl Tryd.underlying34 info23 rfl (by decide) (by omega) v124 y123 l1 _ _ _ (fun k_=>((P0_ k_∨P1_ k_)∨w.heap.size≤k_)) (fun k_=>((fun k_=>((P0_ k_∨P1_ k_)∨w.heap.size≤k_))) k_∧some k_≠(v124:Value).ownBlock) rfl rfl ?aO ?aR (fun _ hk=>hk) ?aF ?aB ?aS ?aL ?_;(case aR=>exact(by skip;exact Kd.V_F (Kd.V_mono (ok':=(fun k_=>((fun k_=>((P0_ k_∨P1_ k_)∨w.heap.size≤k_))) k_∧some k_≠(v124:Value).ownBlock)) (HO1.out) (fun k_ hk=>⟨hk.1,hk.2⟩))));(case aB=>exact bel_);(case aF=>exact(fun k_ hk=>(.inr (Nat.le_trans (bsz bel_) hk))));(case aO=>exact(pN_ HO125.out));(case aS=>exact(bsz bel_));(case aL=>have:=LMc5.out;omega);intro v127 w9 ho hb hg hat;rw[← Ny126.out] at ho;replace HO0:=Aside0.mk (Kd.V_afterv (ok:=(fun k_=>((P0_ k_∨P1_ k_)∨w.heap.size≤k_))) (pV_ HO0.out) hg hat);replace HO1:=Aside0.mk (Kd.V_afterv (ok:=(fun k_=>((P0_ k_∨P1_ k_)∨w.heap.size≤k_))) (pV_ HO1.out) hg hat);replace HB:=Aside0.mk (hb);have HO128:=Aside0.mk (ho);clear HO125;clear ho hb hg hat;obtain⟨Ao10,co10,eo10⟩:=Kd.N_slice HO128.out;subst eo10)|((with_reducible refine gate_callee (f:=46) rfl ?_);refine goesL_ (some 29) rfl rfl Tryd.func46 (by kernel_rfl) rfl #[.slice Ao10 y126.length co10] rfl am_ ?_;(with_reducible refine(sennitref02_All.calls k _ _ y126 t129 _ ?side1 ?side2 A6.out).mono ?_);(case side1=>repeat(first|exact(Kd.N_reads' HO128.out).2.2|(with_reducible refine Kd.C_alloc ?_ _)|(with_reducible refine Kd.C_drewN ?_ _)|(with_reducible refine Kd.C_drew ?_)));(case side2=>exact(Kd.N_reads' HO128.out).2.1);rintro e w11 ⟨v130,rfl,ho0,hb⟩;refine⟨_,rfl,?_⟩;replace HO0:=Aside0.mk (Kd.V_elder' (pV_ HO0.out) (Kd.N_base (Kd.S_N ho0)) hb);replace HO1:=Aside0.mk (Kd.V_elder' (pV_ HO1.out) (Kd.N_base (Kd.S_N ho0)) hb);have HO131:=Aside0.mk (Kd.N_lower (Kd.N_mono (ok':=fun k_=>((P0_ k_∨P1_ k_)∨w.heap.size≤k_)∧some k_≠(.slice Ao10 y126.length co10:Value).ownBlock) (Kd.S_N (Kd.S_bound ho0)) (fun k_ hk_=>⟨(.inr (Nat.le_trans (bsz bel_) hk_.2.1)),(Kd.fresh' (Kd.N_lt (pN_ HO128.out)) k_ hk_.2.1)⟩)) (bsz bel_));replace HO128:=Aside0.mk (Kd.N_elder' (pN_ HO128.out) (Kd.N_base (Kd.S_N ho0)) hb);replace HB:=Aside0.mk (bst bel_ hb);(try clear hb);(try clear hb2);(try clear hk);(try clear hi);(try clear ho0))))
   go_loopg [9,10] k (fun kq v9 v10 w' => ∃ (x9_1:List (List Int)) (x10_1:Int),v10 = .int .i64 x10_1∧Aside0 (sennitref20_Table.l0 kq l0 l1 t129 x9_1 x10_1=some (r1,r2))∧Aside0 (kq≤k)∧Aside0 (Kd.V Kd.string 9 w' w.heap.size (fun k_=>((P0_ k_∨P1_ k_)∨w.heap.size≤k_)∧some k_≠(v130:Value).ownBlock∧some k_≠(v9:Value).ownBlock) (.slice A0 l0.length c0) l0)∧Aside0 (Kd.V (Kd.slice 9 Kd.string) 23 w' w.heap.size (fun k_=>((P0_ k_∨P1_ k_)∨w.heap.size≤k_)∧some k_≠(v130:Value).ownBlock∧some k_≠(v9:Value).ownBlock) (.slice A1 l1.length c1) l1)∧Aside0 (Kd.N (Kd.slice 3 (Kd.int .i64)) 76 w' w.heap.size (fun k_=>((P0_ k_∨P1_ k_)∨w.heap.size≤k_)∧some k_≠(v9:Value).ownBlock) v130 t129)∧Aside0 (Kd.N (Kd.slice 3 (Kd.int .i64)) 76 w' w.heap.size (fun k_=>((P0_ k_∨P1_ k_)∨w.heap.size≤k_)∧some k_≠(v130:Value).ownBlock) v9 x9_1)∧Aside0 (Below w.heap.size w w'))
   (case atStart=>exact⟨(([]:List (List Int))),(0),rs_,H',⟨Nat.le_refl _⟩,⟨Kd.V_mono (pV_ HO0.out) (fun _ hk=>⟨hk.1.1,⟨hk.2,(by simp[Value.ownBlock])⟩⟩)⟩,⟨Kd.V_mono (pV_ HO1.out) (fun _ hk=>⟨hk.1.1,⟨hk.2,(by simp[Value.ownBlock])⟩⟩)⟩,⟨Kd.N_mono (pN_ HO131.out) (fun _ hk=>⟨hk.1,(by simp[Value.ownBlock])⟩)⟩,⟨by first|exact Kd.S_nil _ _ _ _ _|exact Kd.N_nil _ _ _ _ _|exact Kd.V_nil _ _ _ _ _|exact Kd.Q_nil _ _ _ _ _|exact Kd.R_nil _ _ _ _ _⟩,⟨bel_⟩⟩)
   case round =>
    clear H';(try clear c1);(try clear c2);(try clear p2);(try clear c4);(try clear c4b0);(try clear c4b1);(try clear c5);obtain⟨x9_1,x10_1,rfl,HA,HK1,HO_0,HO_1,HO_8,HO_9,HB⟩:=hrel
    cases gk with
    | zero=>exact absurd HA.out (by simp[sennitref20_Table.l0])
    | succ k1 =>
     have H:=HA.out;clear HA;(simp only[sennitref20_Table.l0] at H)
     by_cases c12:x10_1 < (l1.length:Int)
     ·
      (rw[if_pos c12] at H);have c12b0:decide (x10_1 < (l1.length:Int))=true:=decide_eq_true c12;clear c12
      by_cases c13:0 < (t129.length:Int)
      ·
       (rw[if_pos c13] at H);have c13b0:decide (0 < (t129.length:Int))=true:=decide_eq_true c13;have c13b1:decide (0 < t129.length)=true:=decide_eq_true (by omega);clear c13;obtain⟨ji14,hji14⟩ : ∃ j_:Int,(wrap64 (x10_1+1))=j_:=⟨_,rfl⟩;(first|rw[hji14] at H|simp only[hji14] at H);have hji14w:(IntKind.i64.wrap (x10_1+1))=ji14:=(i64_w _).trans hji14
       by_cases c15:0≤(ji14)
       ·
        (rw[if_pos c15] at H);have c15b0:decide (0≤(ji14))=true:=decide_eq_true c15;clear c15
        by_cases c16:(ji14) < (t129.length:Int)
        ·
         (rw[if_pos c16] at H);have c16b0:decide ((ji14) < (t129.length:Int))=true:=decide_eq_true c16;clear c16;replace H:=Option.bind_eq_some_iff.mp H;obtain⟨t134,A170,H⟩:=H;(try dsimp only at H);have A17:=Aside0.mk A170;clear A170
         by_cases c18:x9_1.length < 5864062014805
         ·
          (rw[if_pos c18] at H);have LMc18:=Aside0.mk c18;clear c18;obtain⟨y137,hy137⟩ : ∃ y_:List (List Int),y_=(x9_1 ++ [t134]):=⟨_,rfl⟩;((try rw[Option.bind_some] at H);rw[← hy137] at H);have Ny137:=Aside0.mk hy137;clear hy137;have H':=Aside0.mk H;clear H;(try go_wp2);replace HO_0:=Aside0.mk (Kd.V_drew HO_0.out);replace HO_1:=Aside0.mk (Kd.V_drew HO_1.out);replace HO_8:=Aside0.mk (Kd.N_drew HO_8.out);replace HO_9:=Aside0.mk (Kd.N_drew HO_9.out);replace HB:=Aside0.mk (below_drew1 HB.out);obtain⟨Ao20,co20,eo20⟩:=Kd.N_slice HO_8.out;(first|subst eo20|(injection eo20 with f1_ f2_ f3_;have f4_:=f1_.symm;have f5_:=f3_.symm;clear f1_ f2_ f3_;subst f4_;subst f5_));have p132:0≤(0:Int):=(by omega);have q132:0 < (t129.length:Int):=dt_;obtain⟨ad132,A132_0,c132_0,e132,hx132_0,hl132_0,hi132_0⟩:=at_L13 (Kd.N_reads' HO_8.out).2.2 0 p132 q132;cases e132;obtain⟨ce132,hce132,hMe132,hcc132⟩:=Kd.N_get HO_8.out [] 0 p132 (by first|exact q132|exact dt_|(have e_:=(Kd.N_reads' HO_8.out).1;omega));obtain⟨ua132_0,uc132_0,rfl,ul132_0,ge132_0⟩:=Kd.FK_slice_open hMe132;have hv132_0:=hcc132 0 _ rfl;(rw[Nat.add_zero,show ((Kd.slice 3 (Kd.int .i64))).sz=1 from rfl,Nat.mul_one] at hv132_0);replace hv132_0:=Option.some.inj (hv132_0.symm.trans hx132_0);(injection hv132_0 with hva_ hvn_ hvc_);(rw[hva_] at ge132_0);(rw[hvc_] at ul132_0);have HL132_0:=Aside0.mk (show Kd.V (Kd.int .i64) 3 _ w.heap.size _ _ (rd_L13 t129 0) from Kd.V_mk ul132_0 ge132_0);clear hva_ hvn_ hvc_ ge132_0 ul132_0;clear hcc132 hce132;have qi132:(0 < t129.length)=True:=eq_true (by omega);(try rw[show ((0:Int)).toNat=0 from rfl] at hx132_0);(try rw[Addr.add_zero'] at hx132_0);have HR132_0:=Aside0.mk hi132_0;have HC132_0:=Aside0.mk hl132_0;clear hi132_0 hl132_0;replace p132:=eq_true p132;replace q132:=eq_true q132;have p133:0≤((ji14):Int):=dt_;have q133:(ji14) < (t129.length:Int):=dt_;obtain⟨ad133,A133_0,c133_0,e133,hx133_0,hl133_0,hi133_0⟩:=at_L13 (Kd.N_reads' HO_8.out).2.2 (ji14) p133 q133;obtain rfl:ad132=ad133:=(by injection e133);obtain⟨ce133,hce133,hMe133,hcc133⟩:=Kd.N_get HO_8.out [] (ji14) p133 (by first|exact q133|exact dt_|(have e_:=(Kd.N_reads' HO_8.out).1;omega));obtain⟨ua133_0,uc133_0,rfl,ul133_0,ge133_0⟩:=Kd.FK_slice_open hMe133;have hv133_0:=hcc133 0 _ rfl;(rw[Nat.add_zero,show ((Kd.slice 3 (Kd.int .i64))).sz=1 from rfl,Nat.mul_one] at hv133_0);replace hv133_0:=Option.some.inj (hv133_0.symm.trans hx133_0);(injection hv133_0 with hva_ hvn_ hvc_);(rw[hva_] at ge133_0);(rw[hvc_] at ul133_0);have HL133_0:=Aside0.mk (show Kd.V (Kd.int .i64) 3 _ w.heap.size _ _ (rd_L13 t129 (ji14)) from Kd.V_mk ul133_0 ge133_0);clear hva_ hvn_ hvc_ ge133_0 ul133_0;clear hcc133 hce133;have HR133_0:=Aside0.mk hi133_0;have HC133_0:=Aside0.mk hl133_0;clear hi133_0 hl133_0;replace p133:=eq_true p133;replace q133:=eq_true q133;(refine start_ (n:=13) (S:=fun w'=>w'.cell? ad132=some (.slice A132_0 (rd_L13 t129 0).length c132_0)∧w'.cell? (ad132.add ((ji14)).toNat)=some (.slice A133_0 (rd_L13 t129 (ji14)).length c133_0)) (ds:=[10,11]) (bm_ 13 0) (by kernel_rfl) rfl rfl ⟨hx132_0,hx133_0⟩ (fun hHeld=>?_);refine with_tabW sennitref20_Table.tab11 sennitref20_Table.bits11 (fun HT_ HW_=>?_));(generalize wr.drew=w19 at HO_0 HO_1 HO_8 HO_9 HB HL132_0 HL133_0 HR132_0 HR133_0 hx132_0 hx133_0 hHeld ⊢);refine pq_ (i:=0) (N:=some 36) (hc:=any_of HT_.out (by kernel_rfl)) (bm_ 13 1) ?_;refine pq_ (i:=1) (N:=some 37) (hc:=any_of HT_.out (by kernel_rfl)) (bm_ 13 3) ?_;refine pq_ (i:=2) (N:=some 38) (hc:=any_of HT_.out (by kernel_rfl)) (bm_ 13 7) ?_;refine pq_ (i:=4) (N:=some 40) (hc:=any_of HT_.out (by kernel_rfl)) (bm_ 13 23) ?_;refine pure_ (i:=5) (N:=some 41) (v:=?_) (a':=?_) (bm_ 13 55) rfl rfl (any_of HT_.out (by kernel_rfl)) (fun _ _ _ h=>h) (Or.inl ⟨by rfl,?_⟩) ?_ ?_;rotate_left;(· intro w';go_simp;(with_reducible rfl));rotate_left
          (· simp only[Act.put,List.setIfInBounds_toArray,List.set_cons_zero,List.set_cons_succ,i64_w,i32_w];rfl);refine pq_ (i:=6) (N:=some 42) (hc:=any_of HT_.out (by kernel_rfl)) (bm_ 13 119) ?_;refine pq_ (i:=7) (N:=some 43) (hc:=any_of HT_.out (by kernel_rfl)) (bm_ 13 247) ?_;refine tq_ (i:=3) (N:=some 39) (hc:=take_ofW HT_.out HW_.out (by kernel_rfl)) (bm_ 13 255) hHeld ?_;refine tq_ (i:=8) (N:=some 44) (hc:=take_ofW HT_.out HW_.out (by kernel_rfl)) (bm_ 13 511) hHeld ?_;refine one_ (i:=9) (N:=some 45) (bm_ 13 1023) rfl rfl (one_of HT_.out (by kernel_rfl)) (by decide) (fun K hK=>?_);refine goes_ Tryd.func47 (by kernel_rfl) rfl #[.slice A132_0 (rd_L13 t129 0).length c132_0, .slice A133_0 (rd_L13 t129 (ji14)).length c133_0] (by rfl) rfl rfl (by(try simp only[List.map_toArray,List.map_cons,List.map_nil]);first|done|(simp only[hji14];rfl)|rfl|(simp only[List.length_drop,List.length_take];rfl)) ?_;(with_reducible refine(sennitref03_Match.calls k1 _ _ (rd_L13 t129 0) _ _ (rd_L13 t129 (ji14)) t134 _ ?side1 ?side2 ?side3 ?side4 A17.out).mono ?_);(case side1=>exact pC_ HR132_0.out);(case side2=>exact HC132_0.out);(case side3=>exact pC_ HR133_0.out);(case side4=>exact HC133_0.out);rintro e w21 ⟨v135,rfl,ho0,hb⟩;have HS0_:=(hb.cell (World.block_lt_of_cell? _ _ (hHeld.1))).trans (hHeld.1);have HS1_:=(hb.cell (World.block_lt_of_cell? _ _ (hHeld.2))).trans (hHeld.2);refine⟨_,rfl,?_⟩;replace HO_0:=Aside0.mk (Kd.V_elder' (pV_ HO_0.out) (Kd.R_base ho0) hb);replace HO_1:=Aside0.mk (Kd.V_elder' (pV_ HO_1.out) (Kd.R_base ho0) hb);replace HO_8:=Aside0.mk (Kd.N_elder' (pN_ HO_8.out) (Kd.R_base ho0) hb);replace HO_9:=Aside0.mk (Kd.N_elder' (pN_ HO_9.out) (Kd.R_base ho0) hb);replace HL132_0:=Aside0.mk (Kd.V_elder' (pV_ HL132_0.out) (Kd.R_base ho0) hb);replace HL133_0:=Aside0.mk (Kd.V_elder' (pV_ HL133_0.out) (Kd.R_base ho0) hb);have HO136:=Aside0.mk (Kd.R_lower (Kd.R_newM (M:=fun k_=>(w.heap.size≤k_)) ho0 (bsz bel_) (fun k_ h_=>h_)) (bsz bel_));replace HR132_0:=Aside0.mk (Kd.C_below (pC_ HR132_0.out) hb);replace HR133_0:=Aside0.mk (Kd.C_below (pC_ HR133_0.out) hb);replace HB:=Aside0.mk (bst bel_ hb);(try clear hb);(try clear hb2);(try clear hk);(try clear hi);(try clear ho0);obtain⟨Ao23,co23,eo23⟩:=Kd.R_slice HO136.out
          (first|subst eo23|(injection eo23 with f1_ f2_ f3_;have f4_:=f1_.symm;have f5_:=f3_.symm;clear f1_ f2_ f3_;subst f4_;subst f5_));refine hK.out _ _ ⟨HS0_,HS1_⟩ (fun hHeld=>?_);clear hK K;refine nq_ (N:=some 45) ?_;refine last_ (i:=10) (N:=some 46) (bm_ 13 2047) rfl rfl (one_of HT_.out (by kernel_rfl)) (by decide) (fun K hK=>?_);refine value_ (w1:=?_) (v:=?_) (by rfl) rfl ?_ ?_;rotate_left 2
          ·
           go_simp;constructor;(· rfl);(· rfl)
          refine hK.out _ _ ?_;clear hK K;refine nq_ (N:=some 46) ?_;refine last_ (i:=11) (N:=some 47) (bm_ 13 4095) rfl rfl (one_of HT_.out (by kernel_rfl)) (by decide) (fun K hK=>?_);refine Kd.N_append_step (Kd.slice 3 (Kd.int .i64)) (w0:=w) w.heap.size (by rfl) (.tmp 36) (.tmp 46) 74 76 (.slice none 0 0) 24 rfl Tryd.underlying74 info76 rfl (by decide) (by omega) u9 x9_1 t134 [.slice Ao23 t134.length co23] (fun k_=>((P0_ k_∨P1_ k_)∨w.heap.size≤k_)∧some k_≠(.slice (some ad132) t129.length co20:Value).ownBlock) (fun k_=>((fun k_=>((P0_ k_∨P1_ k_)∨w.heap.size≤k_)∧some k_≠(.slice (some ad132) t129.length co20:Value).ownBlock)) k_∧some k_≠(u9:Value).ownBlock) rfl rfl ?aP (fun _ hk=>hk) ?aF ?aO ?aB ?aS ?aL ?_;(case aP=>exact(Kd.FK_slice_mk (Kd.R_reads' (Kd.R_mono (ok':=(fun k_=>((fun k_=>((P0_ k_∨P1_ k_)∨w.heap.size≤k_)∧some k_≠(.slice (some ad132) t129.length co20:Value).ownBlock)) k_∧some k_≠(u9:Value).ownBlock)) (Kd.R_apart' (Kd.R_apart' (HO136.out) (Kd.N_typed HO_8.out) (by decide)) (Kd.N_typed HO_9.out) (by decide)) (fun k_ hk=>⟨⟨(.inr (hk.1.1.1)),hk.1.2⟩,hk.2⟩))).2.1 (Kd.R_F (Kd.R_mono (ok':=(fun k_=>((fun k_=>((P0_ k_∨P1_ k_)∨w.heap.size≤k_)∧some k_≠(.slice (some ad132) t129.length co20:Value).ownBlock)) k_∧some k_≠(u9:Value).ownBlock)) (Kd.R_apart' (Kd.R_apart' (HO136.out) (Kd.N_typed HO_8.out) (by decide)) (Kd.N_typed HO_9.out) (by decide)) (fun k_ hk=>⟨⟨(.inr (hk.1.1.1)),hk.1.2⟩,hk.2⟩)))));(case aB=>exact bel_);(case aF=>exact(fun k_ hk=>⟨(.inr (Nat.le_trans (bsz bel_) hk)),Kd.fresh' (Kd.N_lt (pN_ HO_8.out)) k_ hk⟩));(case aO=>exact(Kd.N_mono (pN_ HO_9.out) (fun _ hk=>⟨hk.1.1,hk.1.2⟩)));(case aS=>exact(bsz bel_));(case aL=>have:=LMc18.out;omega);intro v138 w22 ho hb hg hat;(rw[← Ny137.out] at ho);replace HO_0:=Aside0.mk (Kd.V_afterv (ok:=(fun k_=>((P0_ k_∨P1_ k_)∨w.heap.size≤k_)∧some k_≠(.slice (some ad132) t129.length co20:Value).ownBlock∧some k_≠(.slice Ao23 t134.length co23:Value).ownBlock)) (Kd.V_mono (pV_ HO_0.out) (fun _ hk=>⟨⟨hk.1.1,⟨hk.1.2.1,hk.2⟩⟩,hk.1.2.2⟩)) hg hat);replace HO_1:=Aside0.mk (Kd.V_afterv (ok:=(fun k_=>((P0_ k_∨P1_ k_)∨w.heap.size≤k_)∧some k_≠(.slice (some ad132) t129.length co20:Value).ownBlock∧some k_≠(.slice Ao23 t134.length co23:Value).ownBlock)) (Kd.V_mono (pV_ HO_1.out) (fun _ hk=>⟨⟨hk.1.1,⟨hk.1.2.1,hk.2⟩⟩,hk.1.2.2⟩)) hg hat);replace HO_8:=Aside0.mk (Kd.N_afterv (ok:=(fun k_=>((P0_ k_∨P1_ k_)∨w.heap.size≤k_)∧some k_≠(.slice Ao23 t134.length co23:Value).ownBlock)) (Kd.N_mono (pN_ HO_8.out) (fun _ hk=>⟨⟨hk.1.1,hk.2⟩,hk.1.2⟩)) hg hat);replace HL132_0:=Aside0.mk (Kd.V_afterv (ok:=(fun k_=>((P0_ k_∨P1_ k_)∨w.heap.size≤k_)∧some k_≠(.slice (some ad132) t129.length co20:Value).ownBlock∧some k_≠(.slice Ao23 t134.length co23:Value).ownBlock)) (Kd.V_mono (pV_ HL132_0.out) (fun _ hk=>⟨⟨hk.1.1.1,⟨hk.1.2,hk.2⟩⟩,hk.1.1.2⟩)) hg hat);replace HL133_0:=Aside0.mk (Kd.V_afterv (ok:=(fun k_=>((P0_ k_∨P1_ k_)∨w.heap.size≤k_)∧some k_≠(.slice (some ad132) t129.length co20:Value).ownBlock∧some k_≠(.slice Ao23 t134.length co23:Value).ownBlock)) (Kd.V_mono (pV_ HL133_0.out) (fun _ hk=>⟨⟨hk.1.1.1,⟨hk.1.2,hk.2⟩⟩,hk.1.1.2⟩)) hg hat);replace HB:=Aside0.mk (hb);have HO139:=Aside0.mk (ho);clear HO_9;clear HO136;clear ho hb hg hat;refine hK.out _ _ ?_;clear hK K;refine nq_ (N:=some 47) ?_;refine pq_ (i:=12) (N:=some 9) (hc:=any_of HT_.out (by kernel_rfl)) (bm_ 13 8191) ?_;refine done_ (done_of HT_.out (by kernel_rfl)) ?_;(try go_wp2)
          go_roundg k1
          (case measure=>have:=HK1.out;omega);(case rel=>exact⟨(y137),(ji14),(by first|rfl|(simp;done)|(simp only[← hji14] <;> (first|rfl|simp))|(simp[*];done)),H',⟨by have:=HK1.out;omega⟩,⟨Kd.V_mono (pV_ HO_0.out) (fun _ hk=>⟨hk.1.1,⟨hk.1.2.1,hk.2⟩⟩)⟩,⟨Kd.V_mono (pV_ HO_1.out) (fun _ hk=>⟨hk.1.1,⟨hk.1.2.1,hk.2⟩⟩)⟩,⟨Kd.N_mono (pN_ HO_8.out) (fun _ hk=>⟨hk.1.1,hk.2⟩)⟩,⟨pN_ HO139.out⟩,⟨bel_⟩⟩)
         (· exact nx_ c18 H)
        (· exact nx_ c16 H)
       (· exact nx_ c15 H)
      (· exact nx_ c13 H)
     ·
      (rw[if_neg c12] at H);have c12b0:decide (x10_1 < (l1.length:Int))=false:=decide_eq_false c12;clear c12;have H':=Aside0.mk H;clear H;go_wp2
      go_loopg [11,12] k1 (fun kq v11 v12 w' => ∃ (x11_2:List (S57)) (x12_2:Int),v12 = .int .i64 x12_2∧Aside0 (sennitref20_Table.l1 kq l0 l1 x9_1 x11_2 x12_2=some (r1,r2))∧Aside0 (kq≤k1)∧Aside0 (Kd.V Kd.string 9 w' w.heap.size (fun k_=>((P0_ k_∨P1_ k_)∨w.heap.size≤k_)∧some k_≠(u9:Value).ownBlock∧some k_≠(v11:Value).ownBlock) (.slice A0 l0.length c0) l0)∧Aside0 (Kd.V (Kd.slice 9 Kd.string) 23 w' w.heap.size (fun k_=>((P0_ k_∨P1_ k_)∨w.heap.size≤k_)∧some k_≠(u9:Value).ownBlock∧some k_≠(v11:Value).ownBlock) (.slice A1 l1.length c1) l1)∧Aside0 (Kd.N (Kd.slice 3 (Kd.int .i64)) 76 w' w.heap.size (fun k_=>((P0_ k_∨P1_ k_)∨w.heap.size≤k_)∧some k_≠(v11:Value).ownBlock) u9 x9_1)∧Aside0 (Kd.R k57 57 w' w.heap.size (fun k_=>(w.heap.size≤k_)) v11 x11_2)∧Aside0 (Below w.heap.size w w'))
      (case atStart=>exact⟨(([]:List (S57))),(0),rs_,H',⟨Nat.le_refl _⟩,⟨Kd.V_mono (pV_ HO_0.out) (fun _ hk=>⟨hk.1,⟨hk.2.2,(by simp[Value.ownBlock])⟩⟩)⟩,⟨Kd.V_mono (pV_ HO_1.out) (fun _ hk=>⟨hk.1,⟨hk.2.2,(by simp[Value.ownBlock])⟩⟩)⟩,⟨Kd.N_mono (pN_ HO_9.out) (fun _ hk=>⟨hk.1,(by simp[Value.ownBlock])⟩)⟩,⟨by first|exact Kd.R_nil _ _ _ _ _|exact Kd.N_nil _ _ _ _ _|exact Kd.V_nil _ _ _ _ _|exact Kd.Q_nil _ _ _ _ _|exact Kd.S_nil _ _ _ _ _⟩,⟨bel_⟩⟩)
      case round =>
       clear H';(try clear c1);(try clear p1);(try clear q1);(try clear hx1);(try clear qi1);(try clear c2);(try clear p2);(try clear c4);(try clear c4b0);(try clear c4b1);(try clear c5);(try clear p6);(try clear c12);(try clear c12b0);(try clear c13);(try clear c13b0);(try clear c13b1);(try clear p13);(try clear q13);(try clear hx13);(try clear qi13);(try clear c15);(try clear c15b0);(try clear c16);(try clear c16b0);(try clear c18);(try clear c23);(try clear hx132_0);(try clear hx133_0);(try clear p132);(try clear p133);(try clear p2);(try clear q132);(try clear q133);obtain⟨x11_2,x12_2,rfl,HA,HK2,HO_0,HO_1,HO_9,HO_11,HB⟩:=hrel
       cases gk with
       | zero=>exact absurd HA.out (by simp[sennitref20_Table.l1])
       | succ k2 =>
        have H:=HA.out;clear HA;(simp only[sennitref20_Table.l1] at H)
        by_cases c24:x12_2≤(l0.length:Int)
        ·
         (rw[if_pos c24] at H);have c24b0:decide (x12_2≤(l0.length:Int))=true:=decide_eq_true c24;clear c24;replace H:=Option.bind_eq_some_iff.mp H;obtain⟨⟨t140,t141⟩,A250,H⟩:=H;(try dsimp only at H);have A25:=Aside0.mk A250;clear A250
         by_cases c26:t141=0
         ·
          (rw[if_pos c26] at H);have c26b0:(t141 == 0)=true:=beq_iff_eq.mpr c26;have c26b1:(t141 != 0)=false:=bne_eq_false_iff_eq.mpr c26;clear c26
          by_cases c27:x11_2.length+t140.length < 4398046511104
          ·
           (rw[if_pos c27] at H);have LMc27:=Aside0.mk c27;clear c27;obtain⟨y144,hy144⟩ : ∃ y_:List (S57),y_=(x11_2 ++ t140):=⟨_,rfl⟩;((try rw[Option.bind_some] at H);rw[← hy144] at H);have Ny144:=Aside0.mk hy144;clear hy144
           by_cases c28:x12_2=(l0.length:Int)
           (· (rw[if_pos c28] at H);have c28b0:(x12_2 == (l0.length:Int))=true:=beq_iff_eq.mpr c28;have c28b1:(x12_2 != (l0.length:Int))=false:=bne_eq_false_iff_eq.mpr c28;clear c28;(simp only[Option.some.injEq,Prod.mk.injEq] at H);obtain⟨rfl,rfl⟩:=H;obtain⟨Ao29,co29,eo29⟩:=Kd.N_slice HO_9.out;subst eo29;(go_wp2_with (first|((with_reducible refine gate_callee (f:=48) rfl ?_);refine goesL_ (some 58) rfl rfl Tryd.func48 (by kernel_rfl) rfl #[.slice A1 l1.length c1, .slice Ao29 x9_1.length co29, .int .i64 x12_2] rfl am_ ?_;(with_reducible refine(sennitref20_ahead.calls k2 _ _ l1 _ _ x9_1 x12_2 t140 t141 _ ?side1 ?side2 ?side3 ?side4 A25.out).mono ?_);(case side1=>repeat(first|exact(Kd.V_reads' HO_1.out).2.2|(with_reducible refine Kd.C_alloc ?_ _)|(with_reducible refine Kd.C_drewN ?_ _)|(with_reducible refine Kd.C_drew ?_)));(case side2=>exact(Kd.V_reads' HO_1.out).2.1);(case side3=>repeat(first|exact(Kd.N_reads' HO_9.out).2.2|(with_reducible refine Kd.C_alloc ?_ _)|(with_reducible refine Kd.C_drewN ?_ _)|(with_reducible refine Kd.C_drew ?_)));(case side4=>exact(Kd.N_reads' HO_9.out).2.1);rintro e w30 ⟨v142,rfl,ho0,hb⟩;refine⟨_,rfl,?_⟩;replace HO_0:=Aside0.mk (Kd.V_elder' (pV_ HO_0.out) (Kd.R_base ho0) hb);replace HO_1:=Aside0.mk (Kd.V_elder' (pV_ HO_1.out) (Kd.R_base ho0) hb);replace HO_9:=Aside0.mk (Kd.N_elder' (pN_ HO_9.out) (Kd.R_base ho0) hb);have HO143:=Aside0.mk (Kd.R_lower (Kd.R_new' (Kd.R_newM (M:=fun k_=>(w.heap.size≤k_)) ho0 (bsz bel_) (fun k_ h_=>h_)) (Kd.R_lt (pR_ HO_11.out))) (bsz bel_));replace HO_11:=Aside0.mk (Kd.R_elder' (pR_ HO_11.out) (Kd.R_base ho0) hb);replace HB:=Aside0.mk (bst bel_ hb);(try clear hb);(try clear hb2);(try clear hk);(try clear hi);(try clear ho0);obtain⟨Ao32,co32,eo32⟩:=Kd.R_slice HO143.out;subst eo32)|((with_reducible refine gate_builtin (b := .append) (xs:=#[.tmp 64, .tmp 65]) rfl ?_);at_builtin;refine Kd.R_append_rows k57 (w0:=w) w.heap.size rfl (.tmp 64) (.tmp 65) 36 57 (.agg #[(.string ⟨#[]⟩),(.string ⟨#[]⟩)]) 32 rfl Tryd.underlying36 info57 rfl (by decide) (by omega) u11 x11_2 t140 _ _ _ (fun k_=>(w.heap.size≤k_)∧some k_≠(.slice Ao32 t140.length co32:Value).ownBlock) (fun _=>False) rfl rfl ?aO ?aR (fun _ _ h=>h) (fun _ h=>h.elim) ?aF ?aB ?aS ?aL ?_;(case aR=>repeat(first|exact(Kd.R_reads' HO143.out).2.2|(with_reducible refine Kd.C_alloc ?_ _)|(with_reducible refine Kd.C_drewN ?_ _)|(with_reducible refine Kd.C_drew ?_)));(case aB=>exact bel_);(case aF=>exact(fun k_ hk=>⟨(Nat.le_trans (bsz bel_) hk),Kd.fresh' (Kd.R_lt (pR_ HO143.out)) k_ hk⟩));(case aO=>exact(pR_ HO_11.out));(case aS=>exact(bsz bel_));(case aL=>have:=LMc27.out;omega);intro v145 w31 ho hb hg hat;rw[← Ny144.out] at ho;replace HO_0:=Aside0.mk (Kd.V_afterv (ok:=(fun k_=>((P0_ k_∨P1_ k_)∨w.heap.size≤k_)∧some k_≠(.slice Ao29 x9_1.length co29:Value).ownBlock∧some k_≠(.slice Ao32 t140.length co32:Value).ownBlock)) (Kd.V_mono (pV_ HO_0.out) (fun _ hk=>⟨⟨hk.1.1,⟨hk.1.2.1,hk.2⟩⟩,hk.1.2.2⟩)) hg hat);replace HO_1:=Aside0.mk (Kd.V_afterv (ok:=(fun k_=>((P0_ k_∨P1_ k_)∨w.heap.size≤k_)∧some k_≠(.slice Ao29 x9_1.length co29:Value).ownBlock∧some k_≠(.slice Ao32 t140.length co32:Value).ownBlock)) (Kd.V_mono (pV_ HO_1.out) (fun _ hk=>⟨⟨hk.1.1,⟨hk.1.2.1,hk.2⟩⟩,hk.1.2.2⟩)) hg hat);replace HO_9:=Aside0.mk (Kd.N_afterv (ok:=(fun k_=>((P0_ k_∨P1_ k_)∨w.heap.size≤k_)∧some k_≠(.slice Ao32 t140.length co32:Value).ownBlock)) (Kd.N_mono (pN_ HO_9.out) (fun _ hk=>⟨⟨hk.1.1,hk.2⟩,hk.1.2⟩)) hg hat);replace HO143:=Aside0.mk (Kd.R_after (ok:=(fun k_=>(w.heap.size≤k_))) (Kd.R_mono (pRm_ HO143.out) (fun _ hk=>⟨hk.1.1,hk.2⟩)) hg hat);replace HB:=Aside0.mk (hb);have HO146:=Aside0.mk (ho);clear HO_11;clear ho hb hg hat)));go_ret2;exact⟨_,ew_,Kd.R_mono (pRm_ HO146.out) (fun _ hk=>hk.1),bel_⟩)
           ·
            (rw[if_neg c28] at H);have c28b0:(x12_2 == (l0.length:Int))=false:=beq_eq_false_iff_ne.mpr c28;have c28b1:(x12_2 != (l0.length:Int))=true:=bne_iff_ne.mpr c28;have H':=Aside0.mk H;clear H;obtain⟨Ao33,co33,eo33⟩:=Kd.N_slice HO_9.out;subst eo33
            (go_wp2_with (first|((with_reducible refine gate_callee (f:=48) rfl ?_);refine goesL_ (some 58) rfl rfl Tryd.func48 (by kernel_rfl) rfl #[.slice A1 l1.length c1, .slice Ao33 x9_1.length co33, .int .i64 x12_2] rfl am_ ?_;(with_reducible refine(sennitref20_ahead.calls k2 _ _ l1 _ _ x9_1 x12_2 t140 t141 _ ?side1 ?side2 ?side3 ?side4 A25.out).mono ?_);(case side1=>repeat(first|exact(Kd.V_reads' HO_1.out).2.2|(with_reducible refine Kd.C_alloc ?_ _)|(with_reducible refine Kd.C_drewN ?_ _)|(with_reducible refine Kd.C_drew ?_)));(case side2=>exact(Kd.V_reads' HO_1.out).2.1);(case side3=>repeat(first|exact(Kd.N_reads' HO_9.out).2.2|(with_reducible refine Kd.C_alloc ?_ _)|(with_reducible refine Kd.C_drewN ?_ _)|(with_reducible refine Kd.C_drew ?_)));(case side4=>exact(Kd.N_reads' HO_9.out).2.1);rintro e w34 ⟨v142,rfl,ho0,hb⟩;refine⟨_,rfl,?_⟩;replace HO_0:=Aside0.mk (Kd.V_elder' (pV_ HO_0.out) (Kd.R_base ho0) hb);replace HO_1:=Aside0.mk (Kd.V_elder' (pV_ HO_1.out) (Kd.R_base ho0) hb);replace HO_9:=Aside0.mk (Kd.N_elder' (pN_ HO_9.out) (Kd.R_base ho0) hb);have HO143:=Aside0.mk (Kd.R_lower (Kd.R_new' (Kd.R_newM (M:=fun k_=>(w.heap.size≤k_)) ho0 (bsz bel_) (fun k_ h_=>h_)) (Kd.R_lt (pR_ HO_11.out))) (bsz bel_));replace HO_11:=Aside0.mk (Kd.R_elder' (pR_ HO_11.out) (Kd.R_base ho0) hb);replace HB:=Aside0.mk (bst bel_ hb);(try clear hb);(try clear hb2);(try clear hk);(try clear hi);(try clear ho0);obtain⟨Ao36,co36,eo36⟩:=Kd.R_slice HO143.out;subst eo36)|((with_reducible refine gate_builtin (b := .append) (xs:=#[.tmp 64, .tmp 65]) rfl ?_);at_builtin;refine Kd.R_append_rows k57 (w0:=w) w.heap.size rfl (.tmp 64) (.tmp 65) 36 57 (.agg #[(.string ⟨#[]⟩),(.string ⟨#[]⟩)]) 32 rfl Tryd.underlying36 info57 rfl (by decide) (by omega) u11 x11_2 t140 _ _ _ (fun k_=>(w.heap.size≤k_)∧some k_≠(.slice Ao36 t140.length co36:Value).ownBlock) (fun _=>False) rfl rfl ?aO ?aR (fun _ _ h=>h) (fun _ h=>h.elim) ?aF ?aB ?aS ?aL ?_;(case aR=>repeat(first|exact(Kd.R_reads' HO143.out).2.2|(with_reducible refine Kd.C_alloc ?_ _)|(with_reducible refine Kd.C_drewN ?_ _)|(with_reducible refine Kd.C_drew ?_)));(case aB=>exact bel_);(case aF=>exact(fun k_ hk=>⟨(Nat.le_trans (bsz bel_) hk),Kd.fresh' (Kd.R_lt (pR_ HO143.out)) k_ hk⟩));(case aO=>exact(pR_ HO_11.out));(case aS=>exact(bsz bel_));(case aL=>have:=LMc27.out;omega);intro v145 w35 ho hb hg hat;rw[← Ny144.out] at ho;replace HO_0:=Aside0.mk (Kd.V_afterv (ok:=(fun k_=>((P0_ k_∨P1_ k_)∨w.heap.size≤k_)∧some k_≠(.slice Ao33 x9_1.length co33:Value).ownBlock∧some k_≠(.slice Ao36 t140.length co36:Value).ownBlock)) (Kd.V_mono (pV_ HO_0.out) (fun _ hk=>⟨⟨hk.1.1,⟨hk.1.2.1,hk.2⟩⟩,hk.1.2.2⟩)) hg hat);replace HO_1:=Aside0.mk (Kd.V_afterv (ok:=(fun k_=>((P0_ k_∨P1_ k_)∨w.heap.size≤k_)∧some k_≠(.slice Ao33 x9_1.length co33:Value).ownBlock∧some k_≠(.slice Ao36 t140.length co36:Value).ownBlock)) (Kd.V_mono (pV_ HO_1.out) (fun _ hk=>⟨⟨hk.1.1,⟨hk.1.2.1,hk.2⟩⟩,hk.1.2.2⟩)) hg hat);replace HO_9:=Aside0.mk (Kd.N_afterv (ok:=(fun k_=>((P0_ k_∨P1_ k_)∨w.heap.size≤k_)∧some k_≠(.slice Ao36 t140.length co36:Value).ownBlock)) (Kd.N_mono (pN_ HO_9.out) (fun _ hk=>⟨⟨hk.1.1,hk.2⟩,hk.1.2⟩)) hg hat);replace HO143:=Aside0.mk (Kd.R_after (ok:=(fun k_=>(w.heap.size≤k_))) (Kd.R_mono (pRm_ HO143.out) (fun _ hk=>⟨hk.1.1,hk.2⟩)) hg hat);replace HB:=Aside0.mk (hb);have HO146:=Aside0.mk (ho);clear HO_11;clear ho hb hg hat)))
            go_loopg [15,16] k2 (fun kq v15 v16 w' => ∃ (x15_3:ByteArray) (x16_3:Int),v15 = .string x15_3∧v16 = .int .i64 x16_3∧Aside0 (sennitref20_Table.l2 kq l0 l1 x9_1 y144 x12_2 x15_3 x16_3=some (r1,r2))∧Aside0 (kq≤k2)∧Aside0 (Kd.V Kd.string 9 w' w.heap.size (fun k_=>((P0_ k_∨P1_ k_)∨w.heap.size≤k_)∧some k_≠((.slice Ao33 x9_1.length co33):Value).ownBlock∧some k_≠(v145:Value).ownBlock) (.slice A0 l0.length c0) l0)∧Aside0 (Kd.V (Kd.slice 9 Kd.string) 23 w' w.heap.size (fun k_=>((P0_ k_∨P1_ k_)∨w.heap.size≤k_)∧some k_≠((.slice Ao33 x9_1.length co33):Value).ownBlock∧some k_≠(v145:Value).ownBlock) (.slice A1 l1.length c1) l1)∧Aside0 (Kd.N (Kd.slice 3 (Kd.int .i64)) 76 w' w.heap.size (fun k_=>((P0_ k_∨P1_ k_)∨w.heap.size≤k_)∧some k_≠(v145:Value).ownBlock) (.slice Ao33 x9_1.length co33) x9_1)∧Aside0 (Kd.R k57 57 w' w.heap.size (fun k_=>(w.heap.size≤k_)) v145 y144)∧Aside0 (Below w.heap.size w w'))
            (case atStart=>exact⟨((⟨#[]⟩:ByteArray)),(0),rs_,rs_,H',⟨Nat.le_refl _⟩,⟨Kd.V_mono (pV_ HO_0.out) (fun _ hk=>⟨hk.1.1,⟨hk.1.2.1,hk.2⟩⟩)⟩,⟨Kd.V_mono (pV_ HO_1.out) (fun _ hk=>⟨hk.1.1,⟨hk.1.2.1,hk.2⟩⟩)⟩,⟨Kd.N_mono (pN_ HO_9.out) (fun _ hk=>⟨hk.1.1,hk.2⟩)⟩,⟨Kd.R_mono (pRm_ HO146.out) (fun _ hk=>hk.1)⟩,⟨bel_⟩⟩)
            case round =>
             clear H';(try clear c1);(try clear p1);(try clear q1);(try clear hx1);(try clear qi1);(try clear c2);(try clear p2);(try clear c4);(try clear c4b0);(try clear c4b1);(try clear c5);(try clear p6);(try clear c12);(try clear c12b0);(try clear c13);(try clear c13b0);(try clear c13b1);(try clear p13);(try clear q13);(try clear hx13);(try clear qi13);(try clear c15);(try clear c15b0);(try clear c16);(try clear c16b0);(try clear c18);(try clear c23);(try clear c24);(try clear c24b0);(try clear c26);(try clear c26b0);(try clear c26b1);(try clear c27);(try clear c28);(try clear c28b0);(try clear c28b1);(try clear hx132_0);(try clear hx133_0);(try clear p1);(try clear p13);(try clear p132);(try clear p133);(try clear p2);(try clear p6);(try clear q1);(try clear q13);(try clear q132);(try clear q133);obtain⟨x15_3,x16_3,rfl,rfl,HA,HK3,HO_0,HO_1,HO_9,HO_11,HB⟩:=hrel
             cases gk with
             | zero=>exact absurd HA.out (by simp[sennitref20_Table.l2])
             | succ k3 =>
              have H:=HA.out;clear HA;(simp only[sennitref20_Table.l2] at H)
              by_cases c37:x16_3 < (l1.length:Int)
              ·
               (rw[if_pos c37] at H);have c37b0:decide (x16_3 < (l1.length:Int))=true:=decide_eq_true c37;clear c37
               by_cases c38:0≤x16_3
               ·
                (rw[if_pos c38] at H);have c38b0:decide (0≤x16_3)=true:=decide_eq_true c38;clear c38
                by_cases c39:x16_3 < (x9_1.length:Int)
                ·
                 (rw[if_pos c39] at H);have c39b0:decide (x16_3 < (x9_1.length:Int))=true:=decide_eq_true c39;clear c39
                 by_cases c40:0≤x12_2
                 ·
                  (rw[if_pos c40] at H);have c40b0:decide (0≤x12_2)=true:=decide_eq_true c40;clear c40
                  by_cases c41:x12_2 < ((rd_L13 x9_1 x16_3).length:Int)
                  ·
                   (rw[if_pos c41] at H);have c41b0:decide (x12_2 < ((rd_L13 x9_1 x16_3).length:Int))=true:=decide_eq_true c41;clear c41
                   by_cases c42:(rd (rd_L13 x9_1 x16_3) x12_2) ≥ 0
                   ·
                    (rw[if_pos c42] at H);have c42b0:decide (0≤(rd (rd_L13 x9_1 x16_3) x12_2))=true:=decide_eq_true c42;clear c42
                    by_cases c43:x15_3.size+1≤9223372036854775807
                    ·
                     (rw[if_pos c43] at H);have c43b0:=eq_true c43;have c43b1:decide (x15_3.size+1≤9223372036854775807)=true:=decide_eq_true c43;(try have c43b2:(9223372036854775807 < x15_3.size+1)=False:=eq_false (Nat.not_lt.2 c43));have H':=Aside0.mk H;clear H;have p147:0≤(x16_3:Int):=dt_;have q147:x16_3 < (x9_1.length:Int):=dt_;obtain⟨ad147,A147_0,c147_0,e147,hx147_0,hl147_0,hi147_0⟩:=at_L13 (Kd.N_reads' HO_9.out).2.2 x16_3 p147 q147;cases e147;obtain⟨ce147,hce147,hMe147,hcc147⟩:=Kd.N_get HO_9.out [] x16_3 p147 (by first|exact q147|exact dt_|(have e_:=(Kd.N_reads' HO_9.out).1;omega));obtain⟨ua147_0,uc147_0,rfl,ul147_0,ge147_0⟩:=Kd.FK_slice_open hMe147;have hv147_0:=hcc147 0 _ rfl;(rw[Nat.add_zero,show ((Kd.slice 3 (Kd.int .i64))).sz=1 from rfl,Nat.mul_one] at hv147_0);replace hv147_0:=Option.some.inj (hv147_0.symm.trans hx147_0);(injection hv147_0 with hva_ hvn_ hvc_);(rw[hva_] at ge147_0);(rw[hvc_] at ul147_0);have HL147_0:=Aside0.mk (show Kd.V (Kd.int .i64) 3 _ w.heap.size _ _ (rd_L13 x9_1 x16_3) from Kd.V_mk ul147_0 ge147_0);clear hva_ hvn_ hvc_ ge147_0 ul147_0;clear hcc147 hce147;have HR147_0:=Aside0.mk hi147_0;have HC147_0:=Aside0.mk hl147_0;clear hi147_0 hl147_0;replace p147:=eq_true p147;replace q147:=eq_true q147;have p148:0≤(x12_2:Int):=dt_;have q148:x12_2 < ((rd_L13 x9_1 x16_3).length:Int):=dt_;obtain⟨ad148,e148,hx148_0⟩:=Kd.at_int (pC_ HR147_0.out) x12_2 p148 q148;cases e148;replace p148:=eq_true p148;replace q148:=eq_true q148;go_wp2
                     go_roundg k3
                     (case measure=>have:=HK1.out;have:=HK2.out;have:=HK3.out;omega);(case rel=>exact⟨(x15_3 ++ (⟨#[32]⟩:ByteArray)),(wrap64 (x16_3+1)),rs_,rs_,H',⟨by have:=HK1.out;have:=HK2.out;have:=HK3.out;omega⟩,⟨pV_ HO_0.out⟩,⟨pV_ HO_1.out⟩,⟨pN_ HO_9.out⟩,⟨pR_ HO_11.out⟩,⟨bel_⟩⟩)
                    (· exact nx_ c43 H)
                   ·
                    (rw[if_neg c42] at H);have c42b0:decide (0≤(rd (rd_L13 x9_1 x16_3) x12_2))=false:=decide_eq_false c42;clear c42
                    by_cases c44:x15_3.size+1≤9223372036854775807
                    ·
                     (rw[if_pos c44] at H);have c44b0:=eq_true c44;have c44b1:decide (x15_3.size+1≤9223372036854775807)=true:=decide_eq_true c44;(try have c44b2:(9223372036854775807 < x15_3.size+1)=False:=eq_false (Nat.not_lt.2 c44));have H':=Aside0.mk H;clear H;have p147:0≤(x16_3:Int):=dt_;have q147:x16_3 < (x9_1.length:Int):=dt_;obtain⟨ad147,A147_0,c147_0,e147,hx147_0,hl147_0,hi147_0⟩:=at_L13 (Kd.N_reads' HO_9.out).2.2 x16_3 p147 q147;cases e147;obtain⟨ce147,hce147,hMe147,hcc147⟩:=Kd.N_get HO_9.out [] x16_3 p147 (by first|exact q147|exact dt_|(have e_:=(Kd.N_reads' HO_9.out).1;omega));obtain⟨ua147_0,uc147_0,rfl,ul147_0,ge147_0⟩:=Kd.FK_slice_open hMe147;have hv147_0:=hcc147 0 _ rfl;(rw[Nat.add_zero,show ((Kd.slice 3 (Kd.int .i64))).sz=1 from rfl,Nat.mul_one] at hv147_0);replace hv147_0:=Option.some.inj (hv147_0.symm.trans hx147_0);(injection hv147_0 with hva_ hvn_ hvc_);(rw[hva_] at ge147_0);(rw[hvc_] at ul147_0);have HL147_0:=Aside0.mk (show Kd.V (Kd.int .i64) 3 _ w.heap.size _ _ (rd_L13 x9_1 x16_3) from Kd.V_mk ul147_0 ge147_0);clear hva_ hvn_ hvc_ ge147_0 ul147_0;clear hcc147 hce147;have HR147_0:=Aside0.mk hi147_0;have HC147_0:=Aside0.mk hl147_0;clear hi147_0 hl147_0;replace p147:=eq_true p147;replace q147:=eq_true q147;have p148:0≤(x12_2:Int):=dt_;have q148:x12_2 < ((rd_L13 x9_1 x16_3).length:Int):=dt_;obtain⟨ad148,e148,hx148_0⟩:=Kd.at_int (pC_ HR147_0.out) x12_2 p148 q148;cases e148;replace p148:=eq_true p148;replace q148:=eq_true q148;go_wp2
                     go_roundg k3
                     (case measure=>have:=HK1.out;have:=HK2.out;have:=HK3.out;omega);(case rel=>exact⟨(x15_3 ++ (⟨#[43]⟩:ByteArray)),(wrap64 (x16_3+1)),rs_,rs_,H',⟨by have:=HK1.out;have:=HK2.out;have:=HK3.out;omega⟩,⟨pV_ HO_0.out⟩,⟨pV_ HO_1.out⟩,⟨pN_ HO_9.out⟩,⟨pR_ HO_11.out⟩,⟨bel_⟩⟩)
                    (· exact nx_ c44 H)
                  (· exact nx_ c41 H)
                 (· exact nx_ c40 H)
                (· exact nx_ c39 H)
               (· exact nx_ c38 H)
              ·
               (rw[if_neg c37] at H);have c37b0:decide (x16_3 < (l1.length:Int))=false:=decide_eq_false c37;clear c37
               by_cases c45:0≤x12_2
               ·
                (rw[if_pos c45] at H);have c45b0:decide (0≤x12_2)=true:=decide_eq_true c45;clear c45
                by_cases c46:x12_2 < (l0.length:Int)
                ·
                 (rw[if_pos c46] at H);have c46b0:decide (x12_2 < (l0.length:Int))=true:=decide_eq_true c46;clear c46
                 by_cases c47:y144.length < 4398046511104
                 ·
                  (rw[if_pos c47] at H);have LMc47:=Aside0.mk c47;clear c47;obtain⟨y150,hy150⟩ : ∃ y_:List (S57),y_=(y144 ++ [(⟨x15_3,rdOf ByteArray.empty l0 x12_2⟩:S57)]):=⟨_,rfl⟩;((try rw[Option.bind_some] at H);rw[← hy150] at H);have Ny150:=Aside0.mk hy150;clear hy150;have H':=Aside0.mk H;clear H;have p149:0≤(x12_2:Int):=dt_;have q149:x12_2 < (l0.length:Int):=dt_;obtain⟨ad149,e149,hx149_0⟩:=Kd.at_string (Kd.V_reads' HO_0.out).2.2 x12_2 p149 q149;cases e149;replace p149:=eq_true p149;replace q149:=eq_true q149;(go_wp2_with (first|((with_reducible refine gate_builtin (b := .append) (xs:=#[.tmp 90, .tmp 97]) rfl ?_);at_builtin;refine Kd.R_append k57 (w0:=w) w.heap.size rfl (.tmp 90) (.tmp 97) 36 57 (.agg #[(.string ⟨#[]⟩),(.string ⟨#[]⟩)]) 32 rfl Tryd.underlying36 info57 rfl (by decide) (by omega) v145 y144 (⟨x15_3,rdOf ByteArray.empty l0 x12_2⟩:S57) [.string x15_3, .string (rdOf ByteArray.empty l0 x12_2)] (fun k_=>(w.heap.size≤k_)) (fun _=>False) rfl rfl ?aP (fun _ hk=>hk.elim) ?aF ?aO ?aB ?aS ?aL ?_;(case aP=>exact k57_mkM _ _ _ (⟨x15_3,rdOf ByteArray.empty l0 x12_2⟩:S57));(case aB=>exact bel_);(case aF=>exact(fun k_ hk=>(Nat.le_trans (bsz bel_) hk)));(case aO=>exact(pR_ HO_11.out));(case aS=>exact(bsz bel_));(case aL=>have:=LMc47.out;omega);intro v151 w48 ho hb hg hat;rw[← Ny150.out] at ho;replace HO_0:=Aside0.mk (Kd.V_afterv (ok:=(fun k_=>((P0_ k_∨P1_ k_)∨w.heap.size≤k_)∧some k_≠(.slice Ao33 x9_1.length co33:Value).ownBlock)) (Kd.V_mono (pV_ HO_0.out) (fun _ hk=>⟨⟨hk.1,hk.2.1⟩,hk.2.2⟩)) hg hat);replace HO_1:=Aside0.mk (Kd.V_afterv (ok:=(fun k_=>((P0_ k_∨P1_ k_)∨w.heap.size≤k_)∧some k_≠(.slice Ao33 x9_1.length co33:Value).ownBlock)) (Kd.V_mono (pV_ HO_1.out) (fun _ hk=>⟨⟨hk.1,hk.2.1⟩,hk.2.2⟩)) hg hat);replace HO_9:=Aside0.mk (Kd.N_afterv (ok:=(fun k_=>((P0_ k_∨P1_ k_)∨w.heap.size≤k_))) (pN_ HO_9.out) hg hat);replace HB:=Aside0.mk (hb);have HO152:=Aside0.mk (ho);clear HO_11;clear ho hb hg hat)))
                  go_roundg k3
                  (case measure=>have:=HK1.out;have:=HK2.out;have:=HK3.out;omega);(case rel=>exact⟨(y150),(wrap64 (x12_2+1)),rs_,H',⟨by have:=HK1.out;have:=HK2.out;have:=HK3.out;omega⟩,⟨Kd.V_mono (pV_ HO_0.out) (fun _ hk=>⟨hk.1.1,⟨hk.1.2,hk.2⟩⟩)⟩,⟨Kd.V_mono (pV_ HO_1.out) (fun _ hk=>⟨hk.1.1,⟨hk.1.2,hk.2⟩⟩)⟩,⟨pN_ HO_9.out⟩,⟨pR_ HO152.out⟩,⟨bel_⟩⟩)
                 (· exact nx_ c47 H)
                (· exact nx_ c46 H)
               (· exact nx_ c45 H)
          (· exact nx_ c27 H)
         (· (rw[if_neg c26] at H);have c26b0:(t141 == 0)=false:=beq_eq_false_iff_ne.mpr c26;have c26b1:(t141 != 0)=true:=bne_iff_ne.mpr c26;(simp only[Option.some.injEq,Prod.mk.injEq] at H);obtain⟨rfl,rfl⟩:=H;obtain⟨Ao49,co49,eo49⟩:=Kd.N_slice HO_9.out;subst eo49;(go_wp2_with (first|((with_reducible refine gate_callee (f:=48) rfl ?_);refine goesL_ (some 58) rfl rfl Tryd.func48 (by kernel_rfl) rfl #[.slice A1 l1.length c1, .slice Ao49 x9_1.length co49, .int .i64 x12_2] rfl am_ ?_;(with_reducible refine(sennitref20_ahead.calls k2 _ _ l1 _ _ x9_1 x12_2 t140 t141 _ ?side1 ?side2 ?side3 ?side4 A25.out).mono ?_);(case side1=>repeat(first|exact(Kd.V_reads' HO_1.out).2.2|(with_reducible refine Kd.C_alloc ?_ _)|(with_reducible refine Kd.C_drewN ?_ _)|(with_reducible refine Kd.C_drew ?_)));(case side2=>exact(Kd.V_reads' HO_1.out).2.1);(case side3=>repeat(first|exact(Kd.N_reads' HO_9.out).2.2|(with_reducible refine Kd.C_alloc ?_ _)|(with_reducible refine Kd.C_drewN ?_ _)|(with_reducible refine Kd.C_drew ?_)));(case side4=>exact(Kd.N_reads' HO_9.out).2.1);rintro e w50 ⟨v142,rfl,ho0,hb⟩;refine⟨_,rfl,?_⟩;replace HO_0:=Aside0.mk (Kd.V_elder' (pV_ HO_0.out) (Kd.R_base ho0) hb);replace HO_1:=Aside0.mk (Kd.V_elder' (pV_ HO_1.out) (Kd.R_base ho0) hb);replace HO_9:=Aside0.mk (Kd.N_elder' (pN_ HO_9.out) (Kd.R_base ho0) hb);have HO143:=Aside0.mk (Kd.R_lower (Kd.R_new' (Kd.R_newM (M:=fun k_=>(w.heap.size≤k_)) ho0 (bsz bel_) (fun k_ h_=>h_)) (Kd.R_lt (pR_ HO_11.out))) (bsz bel_));replace HO_11:=Aside0.mk (Kd.R_elder' (pR_ HO_11.out) (Kd.R_base ho0) hb);replace HB:=Aside0.mk (bst bel_ hb);(try clear hb);(try clear hb2);(try clear hk);(try clear hi);(try clear ho0))));go_ret2;exact⟨_,ew_,by first|exact Kd.R_nil _ _ _ _ _|exact Kd.N_nil _ _ _ _ _|exact Kd.V_nil _ _ _ _ _|exact Kd.Q_nil _ _ _ _ _|exact Kd.S_nil _ _ _ _ _,bel_⟩)
        (· (rw[if_neg c24] at H);have c24b0:decide (x12_2≤(l0.length:Int))=false:=decide_eq_false c24;clear c24;(simp only[Option.some.injEq,Prod.mk.injEq] at H);obtain⟨rfl,rfl⟩:=H;go_wp2;go_ret2;exact⟨_,ew_,by(with_reducible repeat(first|apply Kd.R_alloc|apply Kd.R_drewN|apply Kd.R_drew));exact HO_11.out,bel_⟩)
  (· exact nx_ c5 H)
 (· (rw[if_neg c4] at H);have c4b0:(t122 == 0)=false:=beq_eq_false_iff_ne.mpr c4;have c4b1:(t122 != 0)=true:=bne_iff_ne.mpr c4;(simp only[Option.some.injEq,Prod.mk.injEq] at H);obtain⟨rfl,rfl⟩:=H;go_enter Tryd.func23,Tryd.ntmps23;(go_wp2_with (first|((with_reducible refine gate_callee (f:=45) rfl ?_);refine goesL_ (some 19) rfl rfl Tryd.func45 (by kernel_rfl) rfl #[.slice A0 l0.length c0, .slice A1 l1.length c1] rfl am_ ?_;(with_reducible refine(sennitref20_wrong.calls k _ _ l0 _ _ l1 t122 _ ?side1 ?side2 ?side3 ?side4 A3.out).mono ?_);(case side1=>repeat(first|exact(Kd.V_reads' HO0.out).2.2|(with_reducible refine Kd.C_alloc ?_ _)|(with_reducible refine Kd.C_drewN ?_ _)|(with_reducible refine Kd.C_drew ?_)));(case side2=>exact(Kd.V_reads' HO0.out).2.1);(case side3=>repeat(first|exact(Kd.V_reads' HO1.out).2.2|(with_reducible refine Kd.C_alloc ?_ _)|(with_reducible refine Kd.C_drewN ?_ _)|(with_reducible refine Kd.C_drew ?_)));(case side4=>exact(Kd.V_reads' HO1.out).2.1);rintro e w' ⟨rfl,⟨nd,rfl⟩⟩;refine⟨_,rfl,?_⟩)));go_ret2;exact⟨_,ew_,by first|exact Kd.R_nil _ _ _ _ _|exact Kd.N_nil _ _ _ _ _|exact Kd.V_nil _ _ _ _ _|exact Kd.Q_nil _ _ _ _ _|exact Kd.S_nil _ _ _ _ _,bel_⟩)
end Go.Proofs.YthcnfflhejogfaaDoor.X
namespace Go.Proofs.YthcnfflhejogfaaDoor.X
open Go.RowKit YthcnfflhejogfaaDoorW.PrintWords YthcnfflhejogfaaDoorW.PrintLast YthcnfflhejogfaaDoorW.PrintMore
theorem farKeep {W W':World} {k:Nat} {o:Obj} (h:W.heap[k]? = some o) (hb:Below W.heap.size W W'):W'.heap[k]? = some o:=(hb.block k (Array.getElem?_eq_some_iff.1 h).1).trans h
theorem newKeep {W:World} {k:Nat} {o:Obj} (h:W.heap[k]? = some o) (o':Obj):(W.alloc o').heap[k]? = some o:=(heap_alloc_old _ _ (Array.getElem?_eq_some_iff.1 h).1).trans h
theorem newBelow (W:World) (o:Obj):Below W.heap.size W (W.alloc o):=(Below.refl _ W).alloc (Nat.le_refl _) o
section
variable {α β:Type} {f g:Nat→Option α} {c:Nat→Option β} {r r':α} {t:β}
def Gives (f:Nat→Option α) (r:α):Prop := ∃ K,∀ k,K≤k→f k=some r
theorem Gives.pure (h : ∀ k,f k=some r):Gives f r:=⟨0,fun k _=>h k⟩
theorem Gives.of (h : ∀ k,f (k+1)=some r):Gives f r:=⟨1,fun k hk=>by obtain⟨j,rfl⟩ : ∃ j,k=j+1:=⟨k - 1,by omega⟩;exact h j⟩
theorem Gives.step (hg:Gives g r) (h : ∀ k,f (k+1)=g k):Gives f r:=by
 obtain⟨K,hK⟩:=hg;exact⟨K+1,fun k hk=>by obtain⟨j,rfl⟩ : ∃ j,k=j+1:=⟨k - 1,by omega⟩;rw[h j];exact hK j (by omega)⟩
theorem Gives.same (hg:Gives g r) (h : ∀ k,f k=g k):Gives f r:=by
 obtain⟨K,hK⟩:=hg;exact⟨K,fun k hk=>by rw[h k];exact hK k hk⟩
theorem Gives.call (hc:Gives c t) (hg:Gives g r) (h : ∀ k,c k=some t→f (k+1)=g k):Gives f r:=by
 obtain⟨K,hK⟩:=hg;obtain⟨C,hC⟩:=hc;exact⟨K+C+1,fun k hk=>by obtain⟨j,rfl⟩ : ∃ j,k=j+1:=⟨k - 1,by omega⟩;rw[h j (hC j (by omega))];exact hK j (by omega)⟩
theorem Gives.call0 (hc:Gives c t) (hg:Gives g r) (h : ∀ k,c k=some t→f k=g k):Gives f r:=by
 obtain⟨K,hK⟩:=hg;obtain⟨C,hC⟩:=hc;exact⟨K+C,fun k hk=>by rw[h k (hC k (by omega))];exact hK k (by omega)⟩
theorem Gives.last (hc:Gives c t) (h : ∀ k,c k=some t→f (k+1)=some r):Gives f r:=by
 obtain⟨C,hC⟩:=hc;exact⟨C+1,fun k hk=>by obtain⟨j,rfl⟩ : ∃ j,k=j+1:=⟨k - 1,by omega⟩;exact h j (hC j (by omega))⟩
theorem Gives.last0 (hc:Gives c t) (h : ∀ k,c k=some t→f k=some r):Gives f r:=by
 obtain⟨C,hC⟩:=hc;exact⟨C,fun k hk=>h k (hC k hk)⟩
theorem Gives.eq (h:Gives f r) (e:r=r'):Gives f r':=e ▸ h
end
theorem gw {x:Int} (h : -9223372036854775808≤x) (h2:x < 9223372036854775808):wrap64 x=x:=by
 unfold wrap64;omega
theorem gw1 {i:Nat} (h:i < 4611686018427387904):wrap64 ((i:Int)+1)=((i+1:Nat):Int):=by
 (rw[gw (by omega) (by omega)];omega)
theorem getN {α:Type} {d:α} {L:List α} {i:Nat} (h:i < L.length):L.getD (i:Int).toNat d=L[i]:=by
 simp[h]
theorem rdOfN {α:Type} {d:α} {L:List α} {i:Nat} (h:i < L.length):rdOf d L (i:Int)=L[i]:=by
 simp[rdOf,h]
theorem rdN {L:List Int} {i:Nat} (h:i < L.length):rd L (i:Int)=L[i]:=by
 simp[rd,h]
theorem btN {s:ByteArray} {i:Nat} (h:i < s.size):bt s (i:Int)=((s.data.toList[i]'(by simpa using h)).toNat:Int):=by
 (simp[bt,h];rfl)
theorem strEq {a b:ByteArray}:a.toList=b.toList↔a=b:=by
 constructor;(· intro h;(rw[Lib.toList_data,Lib.toList_data] at h);exact ByteArray.ext (Array.toList_inj.1 h));(· (rintro rfl;rfl))
theorem sizeLen (s:ByteArray):s.size=s.data.toList.length:=by simp
theorem dropCons {α:Type} {l:List α} {i:Nat} (h:i < l.length):l.drop i=l[i] :: l.drop (i+1):=List.drop_eq_getElem_cons h
theorem V_of_C {α:Type} {d:Kd α} (hd:Kd.Heap d) {e base c:Nat} {w:World} {A:Option Addr} {xs:List α} (h:d.C w A xs.length xs) (hc:xs.length≤c):Kd.V d e w base (fun _=>True) (.slice A xs.length c) xs :=
  Kd.V_mk hc (fun W' hW=>hd.C (fun k hk=>hW k trivial hk) h)
theorem u8N {x:Int} (h:(Lit.int .u8 x).wf=true) : ∃ n:Nat,x=(n:Int)∧n < 256:=by
 have e1:IntKind.u8.min=0:=rfl;have e2:IntKind.u8.max=255:=rfl;(simp[Lit.wf,go_sem] at h);exact⟨x.toNat,by omega,by omega⟩
set_option maxHeartbeats 2000000 in
theorem grow_strs (w0 w:World) (n:Nat) (hn:n≤1000000) (hw:Below w0.heap.size w0 w) :
    Calls Tryd.prog 115 #[.slice none 0 0, .int .i64 (n:Int)] w fun e w' => ∃ v,e = .returned v∧Aside0 (Kd.string.R 9 w' w.heap.size (fun _=>True) v [])∧Aside0 (Below w.heap.size w w'):=by
 by_cases h0:n=0
 (· subst h0;go_enter Tryd.func115,Tryd.ntmps115;go_wp2;go_ret;exact⟨_,rfl,⟨Kd.R_nil _ _ _ _ _⟩,⟨Below.refl _ _⟩⟩)
 ·
  have d0:decide ((n:Int) < 0)=false:=decide_eq_false (by omega);have d1:decide (0 < (n:Int))=true:=decide_eq_true (by omega);have d2:decide (0 < n)=true:=decide_eq_true (by omega);go_enter Tryd.func115,Tryd.ntmps115
  go_wp2_with (first
   | (at_builtin;refine Kd.R_append_zeros Kd.string (w0:=w) w.heap.size rfl (.tmp 20) (.tmp 21) 23 3 9 (.string ⟨#[]⟩) 16 rfl Tryd.underlying23 Tryd.underlying3 info9 rfl (by decide) (by decide) (.slice none 0 0) [] ByteArray.empty (kx := .i64) (n:Int) (fun _=>True) rfl rfl rfl (fun _ _=>trivial) (Kd.R_nil _ _ _ _ _) (by omega) (Below.refl _ _) (Nat.le_refl _) (by simp;omega) ?_;intro v1 w1 ho1 hb1 hg1 hat1;obtain⟨A1,c1,hv1⟩:=Kd.R_slice ho1;subst hv1;have HO1:=Aside0.mk (Kd.R_take ho1 (Nat.zero_le _));have HB1:=Aside0.mk hb1;have hlen:([] ++ List.replicate (n:Int).toNat ByteArray.empty).length=n:=(by simp);rw[hlen];clear ho1 hb1 hg1 hat1 hlen))
  go_ret;exact⟨_,rfl,⟨by simpa using HO1.out⟩,HB1⟩
set_option maxHeartbeats 4000000 in
theorem concat_strs (A:Option Addr) (c:Nat) (L:List (List ByteArray)) (w:World) (hC:Kd.C (Kd.slice 9 Kd.string) w A L.length L) (hc:L.length≤c) (hL:L.length≤1000) (hl:L.flatten.length≤1000000) :
    Calls Tryd.prog 97 #[.slice A L.length c] w fun e w' => ∃ v,e = .returned v∧Aside0 (Kd.string.R 9 w' w.heap.size (fun _=>True) v L.flatten)∧Aside0 (Below w.heap.size w w'):=by
 have HC:=Aside0.mk hC;have HL:=Aside0.mk hl
 have hsum : ∀ k,((L.take k).map List.length).sum≤L.flatten.length:=fun k=>by
  have e:L.flatten.length=((L.take k).map List.length).sum+((L.drop k).map List.length).sum:=by
   rw[List.length_flatten,← List.sum_append,← List.map_append,List.take_append_drop]
  omega
 have HSUM:=Aside0.mk hsum;clear hC hl hsum;go_enter Tryd.func97,Tryd.ntmps97;(go_wp2_with fail)
 go_loop [3,5,11] (fun s _ i => ∃ (k:Nat),k≤L.length∧i = .int .i64 k∧s = .int .i64 (((L.take k).map List.length).sum:Nat)) (fun _ _ i=>L.length - (intOf i).toNat)
 (case atStart=>exact⟨0,Nat.zero_le _,rfl,rfl⟩)
 case round =>
  obtain⟨k,hk,rfl,rfl⟩:=hrel;obtain⟨s,hs⟩ : ∃ s,((L.take k).map List.length).sum=s:=⟨_,rfl⟩;(have hsb:s≤1000000:=by have:=HSUM.out k;have:=HL.out;omega);rw[hs];have HS:=Aside0.mk hs;clear hs
  by_cases hlt:k < L.length
  ·
   obtain⟨ad,A5,c5,rfl,hrow,hc5,hC5⟩:=at_slice HC.out k hlt;obtain⟨l,hle⟩ : ∃ l,L.getD k []=l:=⟨_,rfl⟩;(have htk:L.take (k+1)=L.take k ++ [l]:=by rw[← hle,getD_get hlt,List.take_append_getElem hlt]);(rw[hle] at hrow)
   have hs2:((L.take (k+1)).map List.length).sum=s+l.length:=by
    (rw[htk,List.map_append,List.sum_append,HS.out];simp)
   (have hb2:s+l.length≤1000000:=by have:=HSUM.out (k+1);have:=HL.out;omega);have HS2:=Aside0.mk hs2;obtain⟨n,hn⟩ : ∃ n,l.length=n:=⟨_,rfl⟩;(rw[hn] at hrow hb2 HS2);have d0:decide ((s:Int)+(n:Int) < 0)=false:=decide_eq_false (by omega);clear hle htk hs2 hC5 hn;go_wp2;go_round;(case measure=>simp[intOf];omega);(case rel=>exact⟨k+1,by omega,by go_num,by rw[HS2.out];go_num⟩)
  ·
   (have hk':k=L.length:=by omega);subst hk';(rw[List.take_length,← List.length_flatten] at HS);have hs':=HS.out;subst hs';clear HS;obtain⟨n,hn⟩ : ∃ n,L.flatten.length=n:=⟨_,rfl⟩;(rw[hn] at hsb HL ⊢);have HN:=Aside0.mk hn;clear hn;(go_wp2_with fail);refine(grow_strs w _ n hsb (Below.refl _ _)).mono ?_;rintro e w1 ⟨v1,rfl,HR1,HB1⟩;obtain⟨A1,c1,rfl⟩:=Kd.R_slice HR1.out;(go_wp2_with fail)
   go_loopw [6,8,27] (fun v0 _ i wr => ∃ (k:Nat) (Ao:Option Addr) (co m:Nat),v0 = .slice Ao m co∧k≤L.length∧i = .int .i64 k∧Aside0 (Kd.string.R 9 wr w.heap.size (fun _=>True) (.slice Ao m co) (L.take k).flatten)∧Aside0 (Below w.heap.size w wr)) (fun _ _ i _=>L.length - (intOf i).toNat)
   (case atStart=>exact⟨0,_,_,_,rfl,Nat.zero_le _,rfl,HR1,HB1⟩)
   case round =>
    obtain⟨k,Ao,co,m,rfl,hk,rfl,HR,HB⟩:=hrel
    by_cases hlt:k < L.length
    ·
     obtain⟨ad,A5,c5,rfl,hrow,hc5,hC5⟩:=at_slice HC.out k hlt;obtain⟨l,hle⟩ : ∃ l,L.getD k []=l:=⟨_,rfl⟩;(have htk:(L.take (k+1)).flatten=(L.take k).flatten ++ l:=by rw[← hle,getD_get hlt,← List.take_append_getElem hlt,List.flatten_append];simp);have HTK:=Aside0.mk htk;(rw[hle] at hrow hC5);replace hrow:=(HB.out.cell (World.block_lt_of_cell? w _ hrow)).trans hrow;have HC5:Aside0 (Kd.string.C wr A5 l.length l):=⟨Kd.C_below hC5 HB.out⟩
     have hlim:(L.take k).flatten.length+l.length≤1000000:=by
      have h1:=HSUM.out (k+1);have h2:=HL.out;have h3:=congrArg List.length htk;(rw[List.length_append,List.length_flatten] at h3);(rw[HN.out] at h1);omega
     have HLIM:=Aside0.mk hlim;clear hle htk hC5 hlim
     go_wp2_with (first
      | (at_builtin;refine Kd.R_append_rows Kd.string (Rr:=Kd.string.K wr) (w0:=w) w.heap.size rfl (.tmp 31) (.tmp 32) 23 9 (.string ⟨#[]⟩) 16 rfl Tryd.underlying23 info9 rfl (by decide) (by decide) (.slice Ao m co) (L.take k).flatten l A5 l.length c5 (fun _=>True) (fun _=>False) rfl rfl HR.out HC5.out (fun _ _ h=>h) (fun _ h=>h.elim) (fun _ _=>trivial) HB.out HB.out.size (by have:=HLIM.out;omega) ?_;intro v2 w2 ho2 hb2 hg2 hat2;obtain⟨A2,c2,hv2⟩:=Kd.R_slice ho2;subst hv2;generalize ((L.take k).flatten ++ l).length=m2 at ho2 ⊢;have HO2:=Aside0.mk ho2;have HB2:=Aside0.mk hb2;clear ho2 hb2 hg2 hat2))
     go_roundw;(case measure=>simp[intOf];omega);(case rel=>exact⟨k+1,_,_,_,rfl,by omega,by go_num,by rw[HTK.out];exact HO2,HB2⟩)
    (· (have hk':k=L.length:=by omega);subst hk';(rw[List.take_length] at HR);go_wp2;go_ret;exact⟨_,rfl,HR,HB⟩)
end Go.Proofs.YthcnfflhejogfaaDoor.X
namespace Go.Proofs.YthcnfflhejogfaaDoor.X.HkP
variable {α:Type} (m:α→Bool)
def MarkAt (rows:List α) (i:Nat):Prop := ∃ h:i < rows.length,m rows[i]=true
def groupEnd (rows:List α) (i:Nat):Nat:=i+((rows.drop i).takeWhile m).length
theorem groupEnd_step {rows:List α} {i:Nat} (h:i < rows.length) (hm:m rows[i]=true):groupEnd m rows i=groupEnd m rows (i+1):=by
 (rw[groupEnd,groupEnd,dropCons h,List.takeWhile_cons,if_pos hm,List.length_cons];omega)
theorem groupEnd_stop {rows:List α} {i:Nat} (h : ¬ MarkAt m rows i):groupEnd m rows i=i:=by
 by_cases hi:i < rows.length
 ·
  have:m rows[i]=false:=by
   cases e:m rows[i] with
   | false=>rfl
   | true=>exact(h ⟨hi,e⟩).elim
  (rw[groupEnd,dropCons hi,List.takeWhile_cons,if_neg (by rw[this];decide)];rfl)
 (· (rw[groupEnd,List.drop_of_length_le (by omega)];rfl))
theorem groupEnd_spec (rows:List α) (i:Nat) (h:i≤rows.length):i≤groupEnd m rows i∧groupEnd m rows i≤rows.length∧(∀ j,i≤j→j < groupEnd m rows i→MarkAt m rows j) ∧ ¬ MarkAt m rows (groupEnd m rows i):=by
 induction hn:rows.length - i generalizing i with
 | zero =>
  (have : ¬ MarkAt m rows i:=fun ⟨h1,_⟩=>by omega);rw[groupEnd_stop m this];exact⟨Nat.le_refl _,h,fun j a b=>by omega,this⟩
 | succ n ih =>
  by_cases hm:MarkAt m rows i
  ·
   obtain⟨hi,hm1⟩:=hm;obtain⟨a,b,c,d⟩:=ih (i+1) (by omega) (by omega);rw[groupEnd_step m hi hm1];refine⟨by omega,b,fun j x y=>?_,d⟩
   by_cases e:j=i
   (· (subst e;exact⟨hi,hm1⟩));(· exact c j (by omega) y)
  (· rw[groupEnd_stop m hm];exact⟨Nat.le_refl _,h,fun j a b=>by omega,hm⟩)
theorem groupEnd_of {rows:List α} {i t:Nat} (h:i≤t) (hm : ∀ j,i≤j→j < t→MarkAt m rows j) (ht : ¬ MarkAt m rows t) (hl:t≤rows.length):groupEnd m rows i=t:=by
 obtain⟨a,b,c,d⟩:=groupEnd_spec m rows i (by omega)
 by_cases e:groupEnd m rows i < t
 (· exact(d (hm _ a e)).elim)
 ·
  by_cases e2:t < groupEnd m rows i
  (· exact(ht (c _ h e2)).elim);(· omega)
def groupsGo (rows:List α):Nat→Nat→List (Nat × Nat)
  | 0,_=>[]
  | r+1,i=>if h:i < rows.length then (if m rows[i]=true then (i,groupEnd m rows i) :: groupsGo rows r (groupEnd m rows i) else groupsGo rows r (i+1)) else []
theorem notPrev {rows:List α} {i:Nat} (h : ¬ MarkAt m rows i) : ∀ j,j+1=i+1 → ¬ MarkAt m rows j:=fun j e=>by
  obtain rfl:j=i:=by omega
  exact h
def IsGroup (rows:List α) (f t:Nat):Prop:=f < t∧t≤rows.length∧(∀ j,f≤j→j < t→MarkAt m rows j)∧(∀ j,j+1=f → ¬ MarkAt m rows j) ∧ ¬ MarkAt m rows t
theorem mem_groupsGo {rows:List α} {f t:Nat} : ∀ (r i:Nat),rows.length < r+i→(∀ j,j+1=i → ¬ MarkAt m rows j)→((f,t) ∈ groupsGo m rows r i↔i≤f∧IsGroup m rows f t)
 | 0,i,hr,_=>by
  rw[groupsGo];constructor;(· (intro h;cases h));(· (rintro⟨h1,h2,h3,_⟩;omega))
 | r+1,i,hr,hp=>by
  rw[groupsGo]
  by_cases hi:i < rows.length
  ·
   rw[dif_pos hi]
   by_cases hm:m rows[i]=true
   ·
    obtain⟨a,b,c,d⟩:=groupEnd_spec m rows i (by omega)
    have hlt:i < groupEnd m rows i:=by
     rcases Nat.lt_or_ge i (groupEnd m rows i) with h|h
     (· exact h);(· (have:groupEnd m rows i=i:=by omega);(rw[this] at d);exact(d ⟨hi,hm⟩).elim)
    have hM:MarkAt m rows i:=⟨hi,hm⟩;rw[if_pos hm]
    by_cases hge:groupEnd m rows i < rows.length
    ·
     obtain⟨r,rfl⟩ : ∃ q,r=q+1:=⟨r - 1,by omega⟩;(have hnm : ¬ m rows[groupEnd m rows i]=true:=fun e=>d ⟨hge,e⟩)
     have e2:groupsGo m rows (r+1) (groupEnd m rows i)=groupsGo m rows r (groupEnd m rows i+1):=by
      rw[groupsGo,dif_pos hge,if_neg hnm]
     rw[e2,List.mem_cons,mem_groupsGo r _ (by omega) (notPrev m d)];constructor
     ·
      rintro(h|⟨h1,h2⟩);(· (cases h;exact⟨Nat.le_refl _,hlt,b,c,hp,d⟩));(· exact⟨by omega,h2⟩)
     ·
      rintro⟨h1,h2⟩;obtain⟨g1,g2,g3,g4,g5⟩:=h2
      by_cases e:f=i
      (· subst e;left;rw[groupEnd_of m (by omega) g3 g5 g2])
      ·
       right;refine⟨?_,g1,g2,g3,g4,g5⟩
       rcases Nat.lt_or_ge (groupEnd m rows i) f with h|h
       (· exact h)
       ·
        rcases Nat.lt_or_ge f (groupEnd m rows i) with h3|h3
        (· exact(g4 (f - 1) (by omega) (c (f - 1) (by omega) (by omega))).elim);(· (have:f=groupEnd m rows i:=by omega);subst this;exact(d (g3 _ (Nat.le_refl _) g1)).elim)
    ·
     have e2:groupsGo m rows r (groupEnd m rows i)=[]:=by
      cases r with
      | zero=>rfl
      | succ r=>rw[groupsGo,dif_neg hge]
     rw[e2,List.mem_cons];constructor
     ·
      rintro(h|h);(· (cases h;exact⟨Nat.le_refl _,hlt,b,c,hp,d⟩));(· cases h)
     ·
      rintro⟨h1,g1,g2,g3,g4,g5⟩
      by_cases e:f=i
      (· subst e;left;rw[groupEnd_of m (by omega) g3 g5 g2]);(· exact(g4 (f - 1) (by omega) (c (f - 1) (by omega) (by omega))).elim)
   ·
    rw[if_neg hm,mem_groupsGo r _ (by omega) (notPrev m (fun ⟨_,e⟩=>hm e))];constructor;(· (rintro⟨h1,h2⟩;exact⟨by omega,h2⟩))
    ·
     rintro⟨h1,h2⟩;refine⟨?_,h2⟩
     rcases Nat.lt_or_ge i f with h|h
     (· omega);(· (obtain rfl:f=i:=by omega);obtain⟨_,e⟩:=h2.2.2.1 f (Nat.le_refl _) h2.1;exact(hm e).elim)
  ·
   rw[dif_neg hi];constructor;(· (intro h;cases h));(· (rintro⟨h1,h2,h3,_⟩;omega))
def mk (rows:List α) (i:Nat):Bool:=if h:i < rows.length then m rows[i] else false
theorem mk_iff {rows:List α} {i:Nat}:mk m rows i=true↔MarkAt m rows i:=by
 unfold mk;split;(· (rename_i h;exact⟨fun e=>⟨h,e⟩,fun ⟨_,e⟩=>e⟩));(· (rename_i h;exact⟨fun e=>(by cases e),fun ⟨h2,_⟩=>(h h2).elim⟩))
theorem mk_at {rows:List α} {i:Nat} (h:i < rows.length):mk m rows i=m rows[i]:=dif_pos h
theorem mk_no {rows:List α} {i:Nat}:mk m rows i=false ↔ ¬ MarkAt m rows i:=by
 (rw[← mk_iff m];cases mk m rows i <;> simp)
def groupBegin (rows:List α):Nat→Nat
  | 0=>0
  | i+1=>if mk m rows i=true then groupBegin rows i else i+1
theorem groupBegin_spec (rows:List α) : ∀ i,groupBegin m rows i≤i∧(∀ j,groupBegin m rows i≤j→j < i→MarkAt m rows j)∧(∀ j,j+1=groupBegin m rows i → ¬ MarkAt m rows j)
 | 0=>⟨Nat.le_refl _,fun j _ h=>by omega,fun j h=>by rw[groupBegin] at h;omega⟩
 | i+1=>by
  obtain⟨a,b,c⟩:=groupBegin_spec rows i;rw[groupBegin];split
  ·
   rename_i h;refine⟨by omega,fun j h1 h2=>?_,c⟩
   by_cases e:j=i
   (· (subst e;exact(mk_iff m).1 h));(· exact b j h1 (by omega))
  (· rename_i h;refine⟨Nat.le_refl _,fun j h1 h2=>by omega,fun j e=>?_⟩;(obtain rfl:j=i:=by omega);(exact fun h2=>h ((mk_iff m).2 h2)))
def lastM (rows:List α):Nat→Nat
  | 0=>0
  | i+1=>if mk m rows i=true then i+1 else lastM rows i
theorem lastM_spec (rows:List α) : ∀ i,lastM m rows i≤i∧(∀ j,j+1=lastM m rows i→MarkAt m rows j)∧(∀ j,lastM m rows i≤j→j < i → ¬ MarkAt m rows j)
 | 0=>⟨Nat.le_refl _,fun j h=>by rw[lastM] at h;omega,fun j _ h=>by omega⟩
 | i+1=>by
  obtain⟨a,b,c⟩:=lastM_spec rows i;rw[lastM];split;(· rename_i h;refine⟨Nat.le_refl _,fun j e=>?_,fun j h1 h2=>by omega⟩;(obtain rfl:j=i:=by omega);exact(mk_iff m).1 h)
  ·
   rename_i h;refine⟨by omega,b,fun j h1 h2=>?_⟩
   by_cases e:j=i
   (· (subst e;exact fun h3=>h ((mk_iff m).2 h3)));(· exact c j h1 (by omega))
def nextM (rows:List α) (i:Nat):Nat:=groupEnd (fun x => !m x) rows i
theorem nextM_spec (rows:List α) (i:Nat) (h:i≤rows.length):i≤nextM m rows i∧nextM m rows i≤rows.length∧(∀ j,i≤j→j < nextM m rows i → ¬ MarkAt m rows j)∧(nextM m rows i < rows.length→MarkAt m rows (nextM m rows i)):=by
 obtain⟨a,b,c,d⟩:=groupEnd_spec (fun x => !m x) rows i h;refine⟨a,b,fun j h1 h2 ⟨_,e⟩=>?_,fun hlt=>⟨hlt,?_⟩⟩;(· obtain⟨_,e2⟩:=c j h1 h2;(simp only[e] at e2);cases e2)
 ·
  cases e:m rows[nextM m rows i] with
  | true=>rfl
  | false=>exact(d ⟨hlt,by simp only[Bool.not_eq_true'];exact e⟩).elim
theorem IsGroup.uniq {rows:List α} {f t f' t' i:Nat} (h:IsGroup m rows f t) (h':IsGroup m rows f' t') (a:f≤i) (b:i < t) (a':f'≤i) (b':i < t'):f=f'∧t=t':=by
 obtain⟨h1,h2,h3,h4,h5⟩:=h;obtain⟨k1,k2,k3,k4,k5⟩:=h';constructor
 ·
  rcases Nat.lt_trichotomy f f' with e|e|e
  (· exact(k4 (f' - 1) (by omega) (h3 _ (by omega) (by omega))).elim);(· exact e);(· exact(h4 (f - 1) (by omega) (k3 _ (by omega) (by omega))).elim)
 ·
  rcases Nat.lt_trichotomy t t' with e|e|e
  (· exact(h5 (k3 t (by omega) e)).elim);(· exact e);(· exact(k5 (h3 t' (by omega) e)).elim)
theorem isGroup_at {rows:List α} {i:Nat} (h:MarkAt m rows i):IsGroup m rows (groupBegin m rows i) (groupEnd m rows i)∧groupBegin m rows i≤i∧i < groupEnd m rows i:=by
 obtain⟨hi,hm⟩:=h;obtain⟨a,b,c⟩:=groupBegin_spec m rows i;obtain⟨d,e,f,g⟩:=groupEnd_spec m rows i (by omega)
 have hlt:i < groupEnd m rows i:=by
  rcases Nat.lt_or_ge i (groupEnd m rows i) with h|h
  (· exact h);(· (have:groupEnd m rows i=i:=by omega);(rw[this] at g);exact(g ⟨hi,hm⟩).elim)
 refine⟨⟨by omega,e,fun j h1 h2=>?_,c,g⟩,a,hlt⟩
 rcases Nat.lt_or_ge j i with h|h
 (· exact b j h1 h);(· exact f j h h2)
variable (keep:Nat→Nat→Bool)
def Inside (rows:List α) (x:Nat) (f t i:Nat):Prop:=(f≤i∧i < t)∨(i < f∧f≤i+x ∧ ∀ j,i≤j→j < f → ¬ MarkAt m rows j)∨(t≤i∧i < rows.length∧i < t+x ∧ ∀ j,t≤j→j≤i → ¬ MarkAt m rows j)
def keptR (rows:List α) (i:Nat):Bool:=mk m rows i && keep (groupBegin m rows i) (groupEnd m rows i)
def shownR (rows:List α) (x:Nat) (i:Nat):Bool :=
  if mk m rows i=true then keptR m keep rows i
  else (decide (0 < lastM m rows i) && (decide (i+1≤lastM m rows i+x) && keptR m keep rows (lastM m rows i - 1))) || (decide (nextM m rows (i+1) < rows.length) && (decide (nextM m rows (i+1)≤i+x) && keptR m keep rows (nextM m rows (i+1))))
theorem keptR_iff {rows:List α} {i:Nat}:keptR m keep rows i=true ↔ ∃ f t,IsGroup m rows f t∧f≤i∧i < t∧keep f t=true:=by
 rw[keptR,Bool.and_eq_true,mk_iff];constructor;(· rintro⟨h1,h2⟩;obtain⟨a,b,c⟩:=isGroup_at m h1;exact⟨_,_,a,b,c,h2⟩);(· rintro⟨f,t,h,a,b,k⟩;have hm:=h.2.2.1 i a b;obtain⟨a',b',c'⟩:=isGroup_at m hm;obtain⟨e1,e2⟩:=IsGroup.uniq m h a' a b b' c';exact⟨hm,by rw[← e1,← e2];exact k⟩)
theorem shownR_iff {rows:List α} {x i:Nat} (hi:i < rows.length):shownR m keep rows x i=true ↔ ∃ f t,IsGroup m rows f t∧keep f t=true∧Inside m rows x f t i:=by
 rw[shownR];split
 ·
  rename_i hm;(rw[mk_iff] at hm);rw[keptR_iff];constructor;(· (rintro⟨f,t,h,a,b,k⟩;exact⟨f,t,h,k, .inl ⟨a,b⟩⟩))
  ·
   rintro⟨f,t,h,k,⟨a,b⟩|⟨a,_,b⟩|⟨a,_,_,b⟩⟩;(· exact⟨f,t,h,a,b,k⟩);(· exact(b i (Nat.le_refl _) a hm).elim);(· exact(b i a (Nat.le_refl _) hm).elim)
 ·
  rename_i hm;(rw[mk_iff] at hm);obtain⟨l1,l2,l3⟩:=lastM_spec m rows i;obtain⟨n1,n2,n3,n4⟩:=nextM_spec m rows (i+1) hi
  have n3' : ∀ j,i≤j→j < nextM m rows (i+1) → ¬ MarkAt m rows j:=fun j h1 h2=>by
   by_cases e:j=i
   (· (subst e;exact hm));(· exact n3 j (by omega) h2)
  rw[Bool.or_eq_true,Bool.and_eq_true,Bool.and_eq_true,Bool.and_eq_true,Bool.and_eq_true,decide_eq_true_eq,decide_eq_true_eq,decide_eq_true_eq,decide_eq_true_eq,keptR_iff,keptR_iff];constructor
  ·
   rintro(⟨h0,h1,f,t,h,a,b,k⟩|⟨h0,h1,f,t,h,a,b,k⟩)
   ·
    have ht:t=lastM m rows i:=by
     rcases Nat.lt_or_ge (lastM m rows i) t with e|e
     ·
      by_cases e2:lastM m rows i=i
      (· exact(hm (h.2.2.1 i (by omega) (by omega))).elim);(· exact(l3 _ (Nat.le_refl _) (by omega) (h.2.2.1 _ (by omega) e)).elim)
     (· omega)
    refine⟨f,t,h,k, .inr (.inr ⟨by omega,hi,by omega,fun j h2 h3=>?_⟩)⟩
    by_cases e:j=i
    (· (subst e;exact hm));(· exact l3 j (by omega) (by omega))
   ·
    have hf:f=nextM m rows (i+1):=by
     rcases Nat.lt_or_ge f (nextM m rows (i+1)) with e|e
     (· exact(n3' (nextM m rows (i+1) - 1) (by omega) (by omega) (h.2.2.1 _ (by omega) (by omega))).elim);(· omega)
    exact⟨f,t,h,k, .inr (.inl ⟨by omega,by omega,fun j h2 h3=>n3' j h2 (by omega)⟩)⟩
  ·
   rintro⟨f,t,h,k,⟨a,b⟩|⟨a,b,c⟩|⟨a,_,b,c⟩⟩;(· exact(hm (h.2.2.1 i a b)).elim)
   ·
    right
    have hf:nextM m rows (i+1)=f:=by
     have hmf:=h.2.2.1 f (Nat.le_refl _) h.1
     rcases Nat.lt_trichotomy (nextM m rows (i+1)) f with e|e|e
     (· exact(c _ (by omega) e (n4 (by have:=h.1;have:=h.2.1;omega))).elim);(· exact e);(· exact(n3 f (by omega) e hmf).elim)
    rw[hf];exact⟨by have:=h.1;have:=h.2.1;omega,by omega,f,t,h,Nat.le_refl _,h.1,k⟩
   ·
    left
    have ht:lastM m rows i=t:=by
     have hmt:=h.2.2.1 (t - 1) (by have:=h.1;omega) (by have:=h.1;omega);have h1:=h.1
     rcases Nat.lt_trichotomy (lastM m rows i) t with e|e|e
     (· exact(l3 (t - 1) (by omega) (by omega) hmt).elim);(· exact e);(· exact(c (lastM m rows i - 1) (by omega) (by omega) (l2 _ (by omega))).elim)
    rw[ht];have h1:=h.1;exact⟨by omega,by omega,f,t,h,by omega,by omega,k⟩
end Go.Proofs.YthcnfflhejogfaaDoor.X.HkP
namespace Go.Proofs.YthcnfflhejogfaaDoor.X
open Go.RowKit YthcnfflhejogfaaDoorW.PrintWords YthcnfflhejogfaaDoorW.PrintLast YthcnfflhejogfaaDoorW.PrintMore
abbrev RowH:=S57
def mrkB (x:RowH):Bool:=x.f0.data.toList.any (· != 32)
def Low (rows:List RowH):Prop := ∀ x ∈ rows,x.f0.size≤1000000
theorem btIs {s:ByteArray} {i:Nat} (h:i < s.size) (c:UInt8):bt s (i:Int)=(c.toNat:Int)↔s.data.toList[i]'(by simpa using h)=c:=by
 rw[btN h];constructor;(· (intro e;exact UInt8.toNat_inj.1 (by omega)));(· (rintro e;rw[e]))
theorem btIs32 {s:ByteArray} {i:Nat} (h:i < s.size):bt s (i:Int)=32↔s.data.toList[i]'(by simpa using h)=32:=btIs h 32
theorem ref_Marked (s t:ByteArray) (h:s.size≤1000000):Gives (fun k=>sennitref21_Marked.f k s t) (s.data.toList.any (· != 32)):=by
 have hl : ∀ (r i:Nat),i+r=s.size→Gives (fun k=>sennitref21_Marked.l0 k (i:Int) s t) ((s.data.toList.drop i).any (· != 32)):=by
  intro r
  induction r with
  | zero =>
   intro i hi;(refine Gives.of fun k=>?_);show sennitref21_Marked.l0 (k+1) (i:Int) s t=_;(rw[sennitref21_Marked.l0,if_neg (by omega),List.drop_of_length_le (by rw[← sizeLen];omega)];rfl)
  | succ r ih =>
   intro i hi;(have hs:i < s.size:=by omega);(have hil:i < s.data.toList.length:=by rw[← sizeLen];omega);rw[dropCons hil,List.any_cons]
   by_cases e:s.data.toList[i]=32
   (· (have e2:(s.data.toList[i] != 32)=false:=by simp[e]);rw[e2,Bool.false_or];(refine(ih (i+1) (by omega)).step fun k=>?_);show sennitref21_Marked.l0 (k+1) (i:Int) s t=_;rw[sennitref21_Marked.l0,if_pos (by omega),if_pos (by omega),if_pos ((btIs32 hs).2 e),gw1 (by omega)]);(· have e2:(s.data.toList[i] != 32)=true:=bne_iff_ne.2 e;rw[e2,Bool.true_or];(refine Gives.of fun k=>?_);show sennitref21_Marked.l0 (k+1) (i:Int) s t=_;rw[sennitref21_Marked.l0,if_pos (by omega),if_pos (by omega),if_neg (fun q=>e ((btIs32 hs).1 q))])
 (exact(hl s.size 0 (by omega)).same fun k=>rfl)
theorem rdH {rows:List RowH} {i:Nat} (h:i < rows.length):rd_T57 rows (i:Int)=rows[i]:=getN h
theorem ref_marked_at {rows:List RowH} (hz:Low rows) {i:Nat} (h:i < rows.length):Gives (fun k=>sennitref21_Marked.f k (rd_T57 rows (i:Int)).f0 (rd_T57 rows (i:Int)).f1) (HkP.mk mrkB rows i):=by
 rw[rdH h,HkP.mk_at _ h];exact ref_Marked _ _ (hz _ (List.getElem_mem h))
theorem ref_end {rows:List RowH} (hz:Low rows) (hl:rows.length≤1000000) : ∀ (r i:Nat),i+r=rows.length→Gives (fun k=>sennitref21_end.f k rows (i:Int)) (HkP.groupEnd mrkB rows i:Int):=by
 intro r
 induction r with
 | zero =>
  intro i hi;rw[HkP.groupEnd_stop _ (fun ⟨h,_⟩=>by omega)];(refine Gives.of fun k=>?_);show sennitref21_end.l0 (k+1) rows (i:Int)=_;rw[sennitref21_end.l0,if_neg (by omega)]
 | succ r ih =>
  intro i hi;(have hil:i < rows.length:=by omega);have hm:=ref_marked_at hz hil
  cases e:HkP.mk mrkB rows i with
  | true =>
   (rw[e] at hm);have e2:=(HkP.mk_iff _).1 e;rw[HkP.groupEnd_step _ hil e2.2];(refine Gives.call hm (ih (i+1) (by omega)) fun k hk=>?_);show sennitref21_end.l0 (k+1) rows (i:Int)=sennitref21_end.l0 k rows _;rw[sennitref21_end.l0,if_pos (by omega),if_pos (by omega),hk,Option.bind_some,if_pos rfl,gw1 (by omega)]
  | false =>
   (rw[e] at hm);rw[HkP.groupEnd_stop _ ((HkP.mk_no _).1 e)];(refine Gives.last hm fun k hk=>?_);show sennitref21_end.l0 (k+1) rows (i:Int)=_;rw[sennitref21_end.l0,if_pos (by omega),if_pos (by omega),hk,Option.bind_some,if_neg (by decide)]
theorem ref_begin {rows:List RowH} (hz:Low rows) (hl:rows.length≤1000000) : ∀ (i:Nat),i≤rows.length→Gives (fun k=>sennitref21_begin.f k rows (i:Int)) (HkP.groupBegin mrkB rows i:Int):=by
 intro i
 induction i with
 | zero =>
  intro hi;(refine Gives.of fun k=>?_);show sennitref21_begin.l0 (k+1) rows ((0:Nat):Int)=_;(rw[sennitref21_begin.l0,if_neg (by omega)];rfl)
 | succ i ih =>
  intro hi;(have hil:i < rows.length:=by omega);have hm:=ref_marked_at hz hil;(have e1:wrap64 (((i+1:Nat):Int) - 1)=(i:Int):=by rw[gw (by omega) (by omega)];omega);rw[HkP.groupBegin]
  cases e:HkP.mk mrkB rows i with
  | true =>
   (rw[e] at hm);rw[if_pos rfl];(refine Gives.call hm (ih (by omega)) fun k hk=>?_);show sennitref21_begin.l0 (k+1) rows ((i+1:Nat):Int)=sennitref21_begin.l0 k rows _;rw[sennitref21_begin.l0,if_pos (by omega),e1,if_pos (by omega),if_pos (by omega),hk,Option.bind_some,if_pos rfl]
  | false =>
   (rw[e] at hm);rw[if_neg (by decide)];(refine Gives.last hm fun k hk=>?_);show sennitref21_begin.l0 (k+1) rows ((i+1:Nat):Int)=_;rw[sennitref21_begin.l0,if_pos (by omega),e1,if_pos (by omega),if_pos (by omega),hk,Option.bind_some,if_neg (by decide)]
theorem equal_l0 (a b:List ByteArray) (hl:a.length=b.length) (hm:a.length≤1000000000000) : ∀ (r i:Nat),i+r=a.length→Gives (fun k=>slices_Equal_string_string.l0 k a b (a.length:Int) (i:Int)) (decide (a.drop i=b.drop i))
 | 0,i,hi=>Gives.of fun k=>by
  rw[slices_Equal_string_string.l0,if_neg (by omega)];have e1:a.drop i=[]:=List.drop_eq_nil_of_le (by omega);have e2:b.drop i=[]:=List.drop_eq_nil_of_le (by omega);(rw[e1,e2];rfl)
 | r+1,i,hi=>by
  (have ha:i < a.length:=by omega);(have hb:i < b.length:=by omega);have ih:=equal_l0 a b hl hm r (i+1) (by omega);rw[dropCons ha,dropCons hb]
  by_cases e:a[i]=b[i]
  (· rw[e];have e2:decide (b[i] :: a.drop (i+1)=b[i] :: b.drop (i+1))=decide (a.drop (i+1)=b.drop (i+1)):=decide_eq_decide.2 ⟨fun h=>(List.cons.inj h).2,fun h=>by rw[h]⟩;rw[e2];(refine ih.step fun k=>?_);show slices_Equal_string_string.l0 (k+1) a b _ _=_;rw[slices_Equal_string_string.l0,if_pos (by omega),if_pos (by omega),if_pos (by omega),if_pos (by omega),rdOfN ha,rdOfN hb,if_pos (by rw[e]),gw1 (by omega)]);(· have e2:decide (a[i] :: a.drop (i+1)=b[i] :: b.drop (i+1))=false:=decide_eq_false (fun h=>e (List.cons.inj h).1);rw[e2];(refine Gives.of fun k=>?_);rw[slices_Equal_string_string.l0,if_pos (by omega),if_pos (by omega),if_pos (by omega),if_pos (by omega),rdOfN ha,rdOfN hb,if_neg (fun h=>e (strEq.1 h))])
theorem equal_gives (a b:List ByteArray) (hm:a.length≤1000000000000):Gives (fun k=>slices_Equal_string_string.f k a b) (decide (a=b)):=by
 by_cases hl:a.length=b.length
 (· have h:=equal_l0 a b hl hm a.length 0 (by omega);(refine h.same fun k=>?_);(rw[slices_Equal_string_string.f,if_pos (by rw[hl])];rfl));(· have e:decide (a=b)=false:=decide_eq_false (fun h=>hl (by rw[h]));rw[e];(refine Gives.pure fun k=>?_);rw[slices_Equal_string_string.f,if_neg (by omega)])
theorem slices_equal (a b:List ByteArray) (Aa:Option Addr) (ca:Nat) (Ab:Option Addr) (cb:Nat) (w:World) (ha:Kd.C Kd.string w Aa a.length a) (la:a.length≤ca) (hb:Kd.C Kd.string w Ab b.length b) (lb:b.length≤cb) (hm:a.length≤1000000000000) :
    Calls Tryd.prog 96 #[.slice Aa a.length ca, .slice Ab b.length cb] w fun e w'=>e = .returned (.bool (decide (a=b)))∧Drawn0 w w':=by
 obtain⟨K,hK⟩:=equal_gives a b hm;exact slices_Equal_string_string.calls K Aa ca a Ab cb b _ w ha la hb lb (hK K (Nat.le_refl _))
theorem C_none {α:Type} {d:Kd α} {w:World} {n:Nat} {xs:List α} (h:Kd.C d w none n xs):n=0∧xs=[]:=by
 have h1:=h.1
 rcases Nat.eq_zero_or_pos n with h0|h0
 (· subst h0;exact⟨rfl,List.length_eq_zero_iff.1 h1⟩);(· obtain⟨ad,e,_⟩:=h.2.2 h0;cases e)
def slices_Clone_api_Span.f (l0:List S45):Option (List S45):=if l0.length < 17592186044 then some l0 else none
set_option maxHeartbeats 4000000 in
theorem slices_Clone_api_Span.calls (A0:Option Addr) (c0:Nat) (l0 r:List S45) (w:World) (hr0:Kd.C k45 w A0 l0.length l0) (hc0:l0.length≤c0) (h:slices_Clone_api_Span.f l0=some r) :
    Calls Tryd.prog 130 #[.slice A0 l0.length c0] w fun e w' => ∃ v0_:Value,e = .returned (v0_)∧Kd.R k45 45 w' w.heap.size (fun _=>True) v0_ r∧Below w.heap.size w w':=by
 (have q22 : ∀ (w:World) (a:Option Addr) (n c n' c':Nat),(binOp .eql 46 (.slice a n c) (.slice none n' c')).run Tryd.prog w = .ok (.bool a.isNone) w:=fun w a n c n' c'=>Lib.run_eql_slice_nil w _ _ a n c n' c' Tryd.underlying46);(unfold slices_Clone_api_Span.f at h);(split at h)
 ·
  rename_i hb;obtain rfl:=Option.some.inj h;clear h
  cases A0 with
  | none =>
   obtain⟨h0,rfl⟩:=C_none hr0;clear hr0 hb h0;go_enter Tryd.func130,Tryd.ntmps130;go_wp2;go_ret;exact⟨_,rfl,Kd.R_nil _ _ _ _ _,Below.refl _ _⟩
  | some ad =>
   have HR0:=Aside0.mk hr0;have HB:=Aside0.mk (Below.refl w.heap.size w);clear hr0 hc0;have Hb:=Lib.hid hb;clear hb;go_enter Tryd.func130,Tryd.ntmps130;(go_wp2_with (first|((with_reducible refine gate_dst (N:=5) rfl ?_);refine Kd.R_lit k45 _ 45 ?hg (N:=5) ?hd (xs:=([]:List S45)) (inner:=[]) (ok:=fun _=>True) (okp:=fun _=>True) ?hr ?hp (fun _ hk=>hk) trivial (Below.refl _ _) (Nat.le_refl _) (by simp) ?_;(case hd=>rfl);(case hg=>rfl);(case hr=>first|(go_simp;done)|(go_simp;rfl));(case hp=>exact Reps.none _ _);intro v1 w1 ho_ hb_ hg_ hnew_;have HO1:=Aside0.mk (Kd.R_lower ho_ (bsz bel_));replace HB:=Aside0.mk (bst bel_ hb_);clear hb_ ho_ hg_ hnew_)|((with_reducible refine gate_builtin (b := .append) (xs:=#[.tmp 5, .tmp 6]) rfl ?_);at_builtin;refine Kd.R_append_rows k45 (w0:=w) w.heap.size rfl (.tmp 5) (.tmp 6) 46 45 (.agg #[.int .i64 0, .int .i64 0]) 16 rfl Tryd.underlying46 info45 rfl (by decide) (by omega) v1 [] l0 _ _ _ (fun _=>True) (fun _=>False) rfl rfl ?aO ?aR (fun _ _ h=>h) (fun _ h=>h.elim) ?aF ?aB ?aS ?aL ?_;(case aR=>repeat(first|exact(Kd.C_below HR0.out HB.out)|(with_reducible refine Kd.C_alloc ?_ _)|(with_reducible refine Kd.C_drewN ?_ _)|(with_reducible refine Kd.C_drew ?_)));(case aB=>exact bel_);(case aF=>exact(fun _ _=>trivial));(case aO=>exact(pR_ HO1.out));(case aS=>exact(bsz bel_));(case aL=>(have:=Hb.out;simp;omega));intro v2 w2 ho_ hb_ hg_ hat_;replace HB:=Aside0.mk (hb_);have HO2:=Aside0.mk (ho_);clear HO1;clear ho_ hb_ hg_ hat_)));go_ret;exact⟨_,rfl,HO2.out,HB.out⟩
 (· cases h)
end Go.Proofs.YthcnfflhejogfaaDoor.X
namespace Go.Proofs.YthcnfflhejogfaaDoor.X
open Go.RowKit YthcnfflhejogfaaDoorW.PrintWords YthcnfflhejogfaaDoorW.PrintLast YthcnfflhejogfaaDoorW.PrintMore
attribute [local go_sem] max2_int min2_int max_two min_two max_three min_three max_four min_four
def patch_spans.f (l0_0:List (S45)) (a0_1:Int) (a0_2:Int) (l0_3:List (S57)):Option ((List (S45))):=(slices_Clone_api_Span.f l0_0).bind fun t102=>((some (([(⟨a0_1,a0_2⟩:S45)]:List (S45)):List (S45))).bind fun y105=>(if t102.length+y105.length < 8796093022208 then (some (t102 ++ y105)) else (none)))
def patch_spans.T1:Bool × List (List Nat × List Nat):=(true,[([],[]),([0],[0]),([1],[1]),([],[]),([3],[3]),([4],[4]),([2,5,2],[2,5]),([6,6,0,1,2,3,4,5,6],[6])])
def patch_spans.B1:List Nat:=[0,1,3,0,8,24,63,127]
theorem patch_spans.tab1:rtab .any (opsOf Tryd.f112 1)=patch_spans.T1:=by kernel_rfl
theorem patch_spans.bits1:waitsOk patch_spans.T1.2 patch_spans.B1=true:=by kernel_rfl
theorem patch_spans.calls (A0_0:Option Addr) (c0_0:Nat) (l0_0:List (S45)) (a0_1:Int) (a0_2:Int) (A0_3:Option Addr) (c0_3:Nat) (l0_3:List (S57)) (r:List (S45)) (w:World) (hr0_0:Kd.C k45 w A0_0 l0_0.length l0_0) (hc0_0:l0_0.length≤c0_0) (hr0_3:Kd.C k57 w A0_3 l0_3.length l0_3) (hc0_3:l0_3.length≤c0_3) (h:patch_spans.f l0_0 a0_1 a0_2 l0_3=some r) :
    Calls Tryd.prog 112 #[.agg #[.slice A0_0 l0_0.length c0_0, .int .i64 a0_1, .int .i64 a0_2, .slice A0_3 l0_3.length c0_3]] w fun e w' => ∃ v0_:Value,e = .returned (v0_)∧Kd.R k45 45 w' w.heap.size (fun _=>True) v0_ r∧Below w.heap.size w w':=by
 have hu48:=Tryd.underlying48;have hu45:=Tryd.underlying45;have HR0_0:=Aside0.mk hr0_0;have HC0_0:=Aside0.mk hc0_0;clear hr0_0 hc0_0;have HR0_3:=Aside0.mk hr0_3;have HC0_3:=Aside0.mk hc0_3;clear hr0_3 hc0_3;have HB:=Aside0.mk (Below.refl w.heap.size w);have H:=h;(rw[patch_spans.f] at H);clear h;replace H:=Option.bind_eq_some_iff.mp H;obtain⟨t102,A20,H⟩:=H;(try dsimp only at H);have A2:=Aside0.mk A20;clear A20;obtain⟨y105,hy105⟩ : ∃ y_:List (S45),y_=(([(⟨a0_1,a0_2⟩:S45)]:List (S45))):=⟨_,rfl⟩;((try rw[Option.bind_some] at H);rw[← hy105] at H);have Ny105:=Aside0.mk hy105;clear hy105
 by_cases c3:t102.length+y105.length < 8796093022208
 ·
  (rw[if_pos c3] at H);have LMc3:=Aside0.mk c3;clear c3;obtain⟨y108,hy108⟩ : ∃ y_:List (S45),y_=(t102 ++ y105):=⟨_,rfl⟩;((try rw[Option.bind_some] at H);rw[← hy108] at H);have Ny108:=Aside0.mk hy108;clear hy108;obtain rfl:=Option.some.inj H;go_enter Tryd.func112,Tryd.ntmps112;(try go_wp2_with (first|((with_reducible refine gate_dst (N:=1) rfl ?_);refine box_event ?hg (N:=1) ?hd (cs:=#[.slice A0_0 l0_0.length c0_0, .int .i64 a0_1, .int .i64 a0_2, .slice A0_3 l0_3.length c0_3]) (t:=48) ?hr ?_;(case hd=>rfl);(case hg=>rfl);(case hr=>first|(go_simp;done)|(go_simp;rfl));intro gb101 hg w4 hbox hb;have BK101:=Aside0.mk (hbox);have GW101:=Aside0.mk ((by rw[hg];exact(bsz bel_):w.heap.size≤gb101));have GE101:=Aside0.mk ((by rw[hg];exact(bsz bel_):w.heap.size≤gb101));replace HB:=Aside0.mk (bst bel_ hb);clear hb hbox hg)));replace BK101:=Aside0.mk (blk_drew BK101.out);replace HB:=Aside0.mk (below_drew1 HB.out);(refine start_ (n:=8) (S:=fun w'=>w'.cell? ⟨gb101,0,none⟩=some (.slice A0_0 l0_0.length c0_0)∧w'.cell? ⟨gb101,1,none⟩=some (.int .i64 a0_1)∧w'.cell? ⟨gb101,2,none⟩=some (.int .i64 a0_2)∧w'.cell? ⟨gb101,3,none⟩=some (.slice A0_3 l0_3.length c0_3)) (ds:=[]) (bm_ 8 0) (by kernel_rfl) rfl rfl ⟨(bcl BK101.out 0).trans rfl,(bcl BK101.out 1).trans rfl,(bcl BK101.out 2).trans rfl,(bcl BK101.out 3).trans rfl⟩ (fun hHeld=>?_);refine with_tabW patch_spans.tab1 patch_spans.bits1 (fun HT_ HW_=>?_));(generalize w4.drew=w5 at BK101 HB hHeld ⊢);refine pq_ (i:=0) (N:=some 3) (hc:=any_of HT_.out (by kernel_rfl)) (bm_ 8 1) ?_;refine pq_ (i:=3) (N:=some 6) (hc:=any_of HT_.out (by kernel_rfl)) (bm_ 8 9) ?_;refine tq_ (i:=1) (N:=some 4) (hc:=take_ofW HT_.out HW_.out (by kernel_rfl)) (bm_ 8 11) hHeld ?_;refine tq_ (i:=4) (N:=some 7) (hc:=take_ofW HT_.out HW_.out (by kernel_rfl)) (bm_ 8 27) hHeld ?_;refine join_ (σ:=Value × Value) 2 (bm_ 8 63) (fun s_=>[(5,s_.1),(8,s_.2)]) (fun s_ w'=>(w'.cell? ⟨gb101,0,none⟩=some (.slice A0_0 l0_0.length c0_0)∧w'.cell? ⟨gb101,1,none⟩=some (.int .i64 a0_1)∧w'.cell? ⟨gb101,2,none⟩=some (.int .i64 a0_2)∧w'.cell? ⟨gb101,3,none⟩=some (.slice A0_3 l0_3.length c0_3))∧(Kd.R k45 45 w' w.heap.size (fun k_=>some k_≠(s_.2:Value).ownBlock) s_.1 t102)∧(Kd.R k45 45 w' w.heap.size (fun k_=>some k_≠(s_.1:Value).ownBlock) s_.2 y105)∧(w'.heap[gb101]? = some (.cells #[.slice A0_0 l0_0.length c0_0, .int .i64 a0_1, .int .i64 a0_2, .slice A0_3 l0_3.length c0_3] 48 (0,0)))∧(Below w.heap.size w w')) ?_ ?_;rotate_left
  ·
   intro hCont;refine two_ (i:=2) (j:=5) (Ni:=some 5) (Nj:=some 8) (bm_ 8 31) (bm_ 8 59) rfl rfl rfl rfl (two_of HT_.out (by kernel_rfl)) (by decide) (by decide) (fun K hK=>?_) (fun K hK=>?_)
   ·
    skip;refine goes_ Tryd.func130 (by kernel_rfl) rfl #[.slice A0_0 l0_0.length c0_0] (by rfl) rfl rfl am_ ?_;(with_reducible refine(slices_Clone_api_Span.calls _ _ l0_0 t102 _ ?side1 ?side2 A2.out).mono ?_);(case side1=>repeat(first|exact(Kd.C_below HR0_0.out HB.out)|(with_reducible refine Kd.C_alloc ?_ _)|(with_reducible refine Kd.C_drewN ?_ _)|(with_reducible refine Kd.C_drew ?_)));(case side2=>exact HC0_0.out);rintro e w6 ⟨v103,rfl,ho0,hb⟩;refine⟨_,rfl,?_⟩;have HO104:=Aside0.mk (Kd.R_lower ho0 (bsz (bs1_ GE101.out)));replace BK101:=Aside0.mk (blk_below (g:=gb101) (o := .cells #[.slice A0_0 l0_0.length c0_0, .int .i64 a0_1, .int .i64 a0_2, .slice A0_3 l0_3.length c0_3] 48 (0,0)) (pK_ BK101.out) hb);replace HB:=Aside0.mk (bst (bs1_ GE101.out) hb);(try clear hb);(try clear hb2);(try clear hk);(try clear hi);(try clear ho0);refine hK.out _ _ ⟨(bcl BK101.out 0).trans rfl,(bcl BK101.out 1).trans rfl,(bcl BK101.out 2).trans rfl,(bcl BK101.out 3).trans rfl⟩ (fun hHeld=>?_);clear hK K;refine nq_ (N:=some 5) ?_;refine one_ (i:=5) (N:=some 8) (bm_ 8 63) rfl rfl (one_of HT_.out (by kernel_rfl)) (by decide) (fun K hK=>?_);(refine Kd.R_lit_step k45 _ 45 ?hg (N:=8) ?hd (xs:=([(⟨a0_1,a0_2⟩:S45)]:List (S45))) (inner:=[.int .i64 a0_1, .int .i64 a0_2]) (ok:=fun _=>True) (okp:=fun _=>True) ?hr ?hp (fun _ hk=>hk) trivial (Below.refl _ _) (Nat.le_refl _) (by simp) ?_;(case hd=>rfl);(case hg=>rfl);(case hr=>first|(go_simp;done)|(go_simp;rfl));(case hp=>exact(Reps.c2 (show Kd.M k45 _ _ _ (⟨a0_1,a0_2⟩:S45) [.int .i64 a0_1, .int .i64 a0_2] from (k45_mkM _ _ _ (⟨a0_1,a0_2⟩:S45) )) (Reps.none _ _))));intro v106 w7 ho8 hb hg_ hnew_;clear hg_ hnew_;(first|rw[← Ny105.out] at ho8|(simp only[Int.reduceToNat] at ho8;rw[← Ny105.out] at ho8));have HO107:=Aside0.mk (Kd.R_lower (Kd.R_new' ho8 (Kd.R_lt (pR_ HO104.out))) (bsz (bs1_ GE101.out)));replace HO104:=Aside0.mk (Kd.R_elder' (pR_ HO104.out) (Kd.R_base ho8) hb);replace BK101:=Aside0.mk (blk_below (g:=gb101) (o := .cells #[.slice A0_0 l0_0.length c0_0, .int .i64 a0_1, .int .i64 a0_2, .slice A0_3 l0_3.length c0_3] 48 (0,0)) (pK_ BK101.out) hb);replace HB:=Aside0.mk (bst (bs1_ GE101.out) hb);clear hb ho8;refine hK.out _ _ ⟨(bcl BK101.out 0).trans rfl,(bcl BK101.out 1).trans rfl,(bcl BK101.out 2).trans rfl,(bcl BK101.out 3).trans rfl⟩ (fun hHeld=>?_);clear hK K;refine nq_ (N:=some 8) ?_;exact norm_ (by simp only[putAll,Act.put,List.setIfInBounds_toArray,List.set_cons_zero,List.set_cons_succ]) (hCont (v103,v106) _ ⟨hHeld,(Kd.R_mono (pRm_ HO104.out) (fun _ hk=>hk.2)),(Kd.R_mono (pRm_ HO107.out) (fun _ hk=>hk.2)),(pK_ BK101.out),(bs1_ GE101.out)⟩)
   ·
    skip;(refine Kd.R_lit_step k45 _ 45 ?hg (N:=8) ?hd (xs:=([(⟨a0_1,a0_2⟩:S45)]:List (S45))) (inner:=[.int .i64 a0_1, .int .i64 a0_2]) (ok:=fun _=>True) (okp:=fun _=>True) ?hr ?hp (fun _ hk=>hk) trivial (Below.refl _ _) (Nat.le_refl _) (by simp) ?_;(case hd=>rfl);(case hg=>rfl);(case hr=>first|(go_simp;done)|(go_simp;rfl));(case hp=>exact(Reps.c2 (show Kd.M k45 _ _ _ (⟨a0_1,a0_2⟩:S45) [.int .i64 a0_1, .int .i64 a0_2] from (k45_mkM _ _ _ (⟨a0_1,a0_2⟩:S45) )) (Reps.none _ _))));intro v106 w6 ho7 hb hg_ hnew_;clear hg_ hnew_;(first|rw[← Ny105.out] at ho7|(simp only[Int.reduceToNat] at ho7;rw[← Ny105.out] at ho7));have HO107:=Aside0.mk (Kd.R_lower ho7 (bsz (bs1_ GE101.out)));replace BK101:=Aside0.mk (blk_below (g:=gb101) (o := .cells #[.slice A0_0 l0_0.length c0_0, .int .i64 a0_1, .int .i64 a0_2, .slice A0_3 l0_3.length c0_3] 48 (0,0)) (pK_ BK101.out) hb);replace HB:=Aside0.mk (bst (bs1_ GE101.out) hb);clear hb ho7;refine hK.out _ _ ⟨(bcl BK101.out 0).trans rfl,(bcl BK101.out 1).trans rfl,(bcl BK101.out 2).trans rfl,(bcl BK101.out 3).trans rfl⟩ (fun hHeld=>?_);clear hK K;refine nq_ (N:=some 8) ?_;refine one_ (i:=2) (N:=some 5) (bm_ 8 63) rfl rfl (one_of HT_.out (by kernel_rfl)) (by decide) (fun K hK=>?_);refine goes_ Tryd.func130 (by kernel_rfl) rfl #[.slice A0_0 l0_0.length c0_0] (by rfl) rfl rfl am_ ?_;(with_reducible refine(slices_Clone_api_Span.calls _ _ l0_0 t102 _ ?side1 ?side2 A2.out).mono ?_);(case side1=>repeat(first|exact(Kd.C_below HR0_0.out HB.out)|(with_reducible refine Kd.C_alloc ?_ _)|(with_reducible refine Kd.C_drewN ?_ _)|(with_reducible refine Kd.C_drew ?_)));(case side2=>exact HC0_0.out);rintro e w8 ⟨v103,rfl,ho0,hb⟩;refine⟨_,rfl,?_⟩;have HO104:=Aside0.mk (Kd.R_lower (Kd.R_new' ho0 (Kd.R_lt (pR_ HO107.out))) (bsz (bs1_ GE101.out)));replace HO107:=Aside0.mk (Kd.R_elder' (pR_ HO107.out) (Kd.R_base ho0) hb);replace BK101:=Aside0.mk (blk_below (g:=gb101) (o := .cells #[.slice A0_0 l0_0.length c0_0, .int .i64 a0_1, .int .i64 a0_2, .slice A0_3 l0_3.length c0_3] 48 (0,0)) (pK_ BK101.out) hb);replace HB:=Aside0.mk (bst (bs1_ GE101.out) hb);(try clear hb);(try clear hb2);(try clear hk);(try clear hi);(try clear ho0);refine hK.out _ _ ⟨(bcl BK101.out 0).trans rfl,(bcl BK101.out 1).trans rfl,(bcl BK101.out 2).trans rfl,(bcl BK101.out 3).trans rfl⟩ (fun hHeld=>?_);clear hK K;refine nq_ (N:=some 5) ?_;exact norm_ (by simp only[putAll,Act.put,List.setIfInBounds_toArray,List.set_cons_zero,List.set_cons_succ]) (hCont (v103,v106) _ ⟨hHeld,(Kd.R_mono (pRm_ HO104.out) (fun _ hk=>hk.2)),(Kd.R_mono (pRm_ HO107.out) (fun _ hk=>hk.2)),(pK_ BK101.out),(bs1_ GE101.out)⟩)
  rintro⟨v103,v106⟩ w9 ⟨hS_,h0_,h1_,h2_,h3_⟩;have n0_:Aside0 (Kd.R k45 45 w9 w.heap.size (fun k_=>some k_≠(v106:Value).ownBlock) v103 t102):=⟨h0_⟩;have n1_:Aside0 (Kd.R k45 45 w9 w.heap.size (fun k_=>some k_≠(v103:Value).ownBlock) v106 y105):=⟨h1_⟩;have n2_:Aside0 (w9.heap[gb101]? = some (.cells #[.slice A0_0 l0_0.length c0_0, .int .i64 a0_1, .int .i64 a0_2, .slice A0_3 l0_3.length c0_3] 48 (0,0))):=⟨h2_⟩;have n3_:Aside0 (Below w.heap.size w w9):=⟨h3_⟩;clear BK101;clear HB;clear h0_ h1_ h2_ h3_;have HO104:=n0_;have HO107:=n1_;have BK101:=n2_;have HB:=n3_;clear n0_ n1_ n2_ n3_;have hHeld:w9.cell? ⟨gb101,0,none⟩=some (.slice A0_0 l0_0.length c0_0)∧w9.cell? ⟨gb101,1,none⟩=some (.int .i64 a0_1)∧w9.cell? ⟨gb101,2,none⟩=some (.int .i64 a0_2)∧w9.cell? ⟨gb101,3,none⟩=some (.slice A0_3 l0_3.length c0_3):=hS_;obtain⟨Ao11,co11,eo11⟩:=Kd.R_slice HO107.out;(first|subst eo11|(injection eo11 with f1_ f2_ f3_;have f4_:=f1_.symm;have f5_:=f3_.symm;clear f1_ f2_ f3_;subst f4_;subst f5_));refine norm_ (a':=?_) ?_ ?_;rotate_left;(· simp only[putAll,Act.put,List.setIfInBounds_toArray,List.set_cons_zero,List.set_cons_succ];rfl);refine one_ (i:=6) (N:=some 9) (bm_ 8 127) rfl rfl (one_of HT_.out (by kernel_rfl)) (by decide) (fun K hK=>?_);refine Kd.R_append_rows_step k45 (w0:=w) w.heap.size (by rfl) (.tmp 5) (.tmp 8) 46 45 (.agg #[(.int .i64 0),(.int .i64 0)]) 16 rfl Tryd.underlying46 info45 rfl (by decide) (by omega) v103 t102 y105 _ _ _ (fun k_=>some k_≠(.slice Ao11 y105.length co11:Value).ownBlock) (fun _=>False) rfl rfl ?aO ?aR (fun _ _ h=>h) (fun _ h=>h.elim) ?aF ?aB ?aS ?aL ?_;(case aR=>repeat(first|exact(Kd.R_reads' HO107.out).2.2|(with_reducible refine Kd.C_alloc ?_ _)|(with_reducible refine Kd.C_drewN ?_ _)|(with_reducible refine Kd.C_drew ?_)));(case aB=>exact(bs1_ GE101.out));(case aF=>exact(fun k_ hk=>Kd.fresh' (Kd.R_lt (pR_ HO107.out)) k_ hk));(case aO=>exact(pR_ HO104.out));(case aS=>exact(bsz (bs1_ GE101.out)));(case aL=>have:=LMc3.out;omega);intro v109 w10 ho hb hg hat;(rw[← Ny108.out] at ho);replace BK101:=Aside0.mk (blk_grown (g:=gb101) (o := .cells #[.slice A0_0 l0_0.length c0_0, .int .i64 a0_1, .int .i64 a0_2, .slice A0_3 l0_3.length c0_3] 48 (0,0)) (pK_ BK101.out) hg (Kd.R_ne HO104.out BK101.out (by decide)));replace HO107:=Aside0.mk (Kd.R_after (ok:=(fun _=>True)) (Kd.R_mono (pRm_ HO107.out) (fun _ hk=>⟨trivial,hk⟩)) hg hat);replace HB:=Aside0.mk (hb);have HO110:=Aside0.mk (ho);clear HO104;clear ho hb hg hat;refine hK.out _ _ ⟨(bcl BK101.out 0).trans rfl,(bcl BK101.out 1).trans rfl,(bcl BK101.out 2).trans rfl,(bcl BK101.out 3).trans rfl⟩ (fun hHeld=>?_);clear hK K;refine nq_ (N:=some 9) ?_;refine pq_ (i:=7) (N:=some 2) (hc:=any_of HT_.out (by kernel_rfl)) (bm_ 8 255) ?_;refine done_ (done_of HT_.out (by kernel_rfl)) ?_;(try go_wp2);go_ret;exact⟨_,ew_,Kd.R_mono (pRm_ HO110.out) (fun _ hk=>trivial),by repeat(first|(with_reducible first|exact HB.out|apply below_alloc|apply pw_below_drewN|apply below_drew1|refine below_set ?_ GE101.out)|exact HB.out)⟩
 (· exact nx_ c3 H)
end Go.Proofs.YthcnfflhejogfaaDoor.X
namespace Go.Proofs.YthcnfflhejogfaaDoor.X
open Go.RowKit YthcnfflhejogfaaDoorW.PrintWords Go.Deep
def Light {H:Type} (P:Program) (t:TypeId) (d:DataW H):Prop := ∀ n ∈ d.weights P t,n≤140737488351232
def Opens {α:Type} (P:Program) (t:TypeId) (d:Kd α) (good:α→Prop):Prop :=
  ∀ {H:Type} (enc:TypeId × Value→H) (w:World) (fuel:Nat) (cs:List Value) (x:DataW H × List MemPlace),
    DataW.trod enc P w 0 (fun _=>true) true fuel t cs=some x→Light P t x.1 → ∃ y,d.K w y cs∧good y
theorem opens_string {P:Program} {t:TypeId} (ht:P.underlying t=some .string):Opens P t Kd.string (fun s=>s.size≤140737488351232):=by
 intro H enc w fuel cs x h hl;obtain⟨s,rfl,rfl,hs⟩:=DataW.trod_string ht h;refine⟨s,rfl,?_⟩;have:=hl s.data.toList.length (by simp[DataW.weights]);simpa using this
theorem mem_weightsAll {H:Type} {P:Program} {e:TypeId} {n:Nat} : ∀ {l:List (DataW H)} {d:DataW H},d ∈ l→n ∈ d.weights P e→n ∈ DataW.weightsAll P e l
 | d0 :: l,d,h,hn=>by
  simp only[DataW.weightsAll,List.mem_append]
  rcases List.mem_cons.1 h with rfl|h
  (· exact .inl hn);(· exact .inr (mem_weightsAll h hn))
theorem pick_list {α:Type} {Q:Nat→α→Prop} : ∀ n:Nat,(∀ i,i < n → ∃ y,Q i y) → ∃ ys:List α,ys.length=n ∧ ∀ (i:Nat) (y:α),ys[i]? = some y→Q i y
 | 0,_=>⟨[],rfl,fun i y h=>by simp at h⟩
 | n+1,h=>by
  obtain⟨ys,hl,hq⟩:=pick_list n (fun i hi=>h i (by omega));obtain⟨y,hy⟩:=h n (by omega);refine⟨ys ++ [y],by simp[hl],fun i z hz=>?_⟩
  rcases Nat.lt_or_ge i ys.length with hi|hi
  (· (rw[List.getElem?_append_left hi] at hz);exact hq i z hz)
  ·
   have hi':i=n:=by
    have:=(List.getElem?_eq_some_iff.1 hz).1;(simp at this);omega
   subst hi';(rw[List.getElem?_append_right hi,hl] at hz);(simp at hz);(exact hz ▸ hy)
theorem opens_slice {α:Type} {P:Program} {t e:TypeId} {d:Kd α} {good:α→Prop} (ht:P.underlying t=some (.slice e)) (hc:P.cellsOf e=d.sz) {B:Nat} (hB:P.bytesOf e=B) (hd:Opens P e d good) :
    Opens P t (Kd.slice e d) (fun l=>l.length * B≤140737488351232 ∧ ∀ y ∈ l,good y):=by
 intro H enc w fuel cs x h hw
 rcases open_slice ht h with ⟨rfl,_⟩|⟨a,len,cap,m,n,D,Pl,rfl,_,hl,hm,hmm,rfl,hx⟩
 (· exact⟨[],⟨none,0,rfl,Nat.le_refl _,rfl,by simp,fun h=>absurd h (by simp)⟩,by simp,by simp⟩)
 ·
  have hle:len≤m:=by
   rw[hmm];simp;exact hl
  have hD : ∀ i,i < len→Light P e (D i):=fun i hi n hn=>hw n (by
   simp only[DataW.weights,ht]
   exact List.mem_cons_of_mem _ (List.mem_append_left _ (mem_weightsAll (List.mem_map.2 ⟨i,List.mem_range.2 hi,rfl⟩) hn)))
  have hS:len * B≤140737488351232:=by
   have z:=hw _ (by simp only[DataW.weights,ht];exact List.mem_cons_self);(rw[hB] at z);(simp only[List.length_map,List.length_range] at z);exact Nat.le_trans (Nat.mul_le_mul_right _ (Nat.le_add_right _ _)) z
  obtain⟨ys,hyl,hyq⟩:=pick_list (Q:=fun i y => ∃ c,w.cells? 0 (a.add (i * d.sz)) d.sz=some c∧d.K w y c∧good y) len (fun i hi=>by
   obtain⟨c,h1,h2⟩:=hx i (by omega);obtain⟨y,h3,h4⟩:=hd enc w n c _ h2 (hD i hi);(rw[hc] at h1)
   exact⟨y,c,h1,h3,h4⟩)
  refine⟨ys,⟨some a,cap,by rw[hyl],by omega,rfl,?_,fun _=>⟨a,rfl,fun j p hp=>?_⟩⟩,?_,fun y hy=>?_⟩;(· (unfold maxLen at hm;omega));(· obtain⟨c,h1,h3,_⟩:=hyq j p hp;obtain⟨_,hlen,hcell⟩:=World.cells?_some h1;refine⟨c,hlen,h3,fun i u hu=>?_⟩;(have hi:i < d.sz:=by rw[← hlen];exact(List.getElem?_eq_some_iff.1 hu).1);rw[← Go.Deep.add_add,hcell i hi,hu]);(· (rw[hyl];exact hS));(· obtain⟨j,hj,rfl⟩:=List.mem_iff_getElem.1 hy;obtain⟨_,_,_,hg⟩:=hyq j _ (List.getElem?_eq_getElem hj);exact hg)
theorem Opens.slice_arg {α:Type} {P:Program} {t e:TypeId} {d:Kd α} {g:List α→Prop} (h:Opens P t (Kd.slice e d) g) {H:Type} {enc:TypeId × Value→H} {w:World} {v:Value} {x:DataW H} {ps:List MemPlace}
    (hv : ∃ a len cap,v = .slice a len cap) (hw:Light P t x) (ht:DataW.Trod enc P w 0 (fun _=>true) true t v x ps) :
    ∃ A c l,v = .slice A l.length c∧Kd.C d w A l.length l∧l.length≤c∧g l:=by
 obtain⟨fuel,hf⟩:=ht;obtain⟨l,⟨A,c,hcs,hlc,hC⟩,hg⟩:=h enc w fuel _ _ hf hw;obtain⟨a,len,cap,rfl⟩:=hv;(simp[Value.cells] at hcs);obtain⟨rfl,rfl,rfl⟩:=hcs;exact⟨_,_,l,rfl,hC,hlc,hg⟩
theorem light_of {H:Type} {P:Program} {ts:List TypeId} {ds:List (DataW H)} (hsz:(DataW.weightsEach P ts ds).all (· ≤ reachBytes)=true) {j:Nat} {t:TypeId} {d:DataW H} (ht:ts[j]? = some t) (hd:ds[j]? = some d):Light P t d:=by
 intro n hn;have:=List.all_eq_true.1 hsz _ (DataW.weights_mem_each ht hd n hn);exact of_decide_eq_true this
end Go.Proofs.YthcnfflhejogfaaDoor.X
namespace Go.Proofs
open Go.Shelf
def Tryd.lays160_ren:Go.Shelf.Ren:=⟨fun|160=>64|232=>89|231=>88|227=>90|234=>92|233=>91|236=>94|235=>93|228=>108|271=>111|151=>110|197=>109|120=>129|152=>128|260=>127|137=>139|119=>140|224=>125|225=>124|217=>123|266=>137|n=>n,fun|9=>9|4=>4|3=>3|5=>5|117=>118|116=>117|0=>0|124=>121|21=>21|105=>128|46=>150|119=>158|139=>161|138=>160|n=>n,fun|3=>1|4=>2|n=>n⟩
theorem Tryd.lays160:Go.Proofs.Lays.n160 Tryd.prog Tryd.lays160_ren:={
  mixed:=by kernel_rfl
  f119:=Tryd.func140.trans (congrArg some (by kernel_rfl))
  f120:=Tryd.func129.trans (congrArg some (by kernel_rfl))
  f137:=Tryd.func139.trans (congrArg some (by kernel_rfl))
  f151:=Tryd.func110.trans (congrArg some (by kernel_rfl))
  f152:=Tryd.func128.trans (congrArg some (by kernel_rfl))
  f160:=Tryd.func64.trans (congrArg some (by kernel_rfl))
  f197:=Tryd.func109.trans (congrArg some (by kernel_rfl))
  f217:=Tryd.func123.trans (congrArg some (by kernel_rfl))
  f224:=Tryd.func125.trans (congrArg some (by kernel_rfl))
  f225:=Tryd.func124.trans (congrArg some (by kernel_rfl))
  f227:=Tryd.func90.trans (congrArg some (by kernel_rfl))
  f228:=Tryd.func108.trans (congrArg some (by kernel_rfl))
  f231:=Tryd.func88.trans (congrArg some (by kernel_rfl))
  f232:=Tryd.func89.trans (congrArg some (by kernel_rfl))
  f233:=Tryd.func91.trans (congrArg some (by kernel_rfl))
  f234:=Tryd.func92.trans (congrArg some (by kernel_rfl))
  f235:=Tryd.func93.trans (congrArg some (by kernel_rfl))
  f236:=Tryd.func94.trans (congrArg some (by kernel_rfl))
  f260:=Tryd.func127.trans (congrArg some (by kernel_rfl))
  f266:=Tryd.func137.trans (congrArg some (by kernel_rfl))
  f271:=Tryd.func111.trans (congrArg some (by kernel_rfl))
  t0:=Tryd.underlying0
  a0:=Tryd.isAgg0
  z0:=Tryd.sizeOf0
  v0:=Tryd.zeroValue0
  t3:=Tryd.underlying3
  a3:=Tryd.isAgg3
  z3:=Tryd.sizeOf3
  v3:=Tryd.zeroValue3
  t4:=Tryd.underlying4
  a4:=Tryd.isAgg4
  z4:=Tryd.sizeOf4
  v4:=Tryd.zeroValue4
  t5:=Tryd.underlying5
  a5:=Tryd.isAgg5
  z5:=Tryd.sizeOf5
  v5:=Tryd.zeroValue5
  t9:=Tryd.underlying9
  a9:=Tryd.isAgg9
  z9:=Tryd.sizeOf9
  v9:=Tryd.zeroValue9
  t21:=Tryd.underlying21
  a21:=Tryd.isAgg21
  z21:=Tryd.sizeOf21
  v21:=Tryd.zeroValue21
  t46:=Tryd.underlying150
  a46:=Tryd.isAgg150
  z46:=Tryd.sizeOf150
  v46:=Tryd.zeroValue150
  t105:=Tryd.underlying128
  a105:=Tryd.isAgg128
  z105:=Tryd.sizeOf128
  v105:=Tryd.zeroValue128
  t116:=Tryd.underlying117
  a116:=Tryd.isAgg117
  z116:=Tryd.sizeOf117
  t117:=Tryd.underlying118
  a117:=Tryd.isAgg118
  z117:=Tryd.sizeOf118
  v117:=Tryd.zeroValue118
  t119:=Tryd.underlying158
  a119:=Tryd.isAgg158
  z119:=Tryd.sizeOf158
  t124:=Tryd.underlying121
  a124:=Tryd.isAgg121
  z124:=Tryd.sizeOf121
  v124:=Tryd.zeroValue121
  t138:=Tryd.underlying160
  a138:=Tryd.isAgg160
  z138:=Tryd.sizeOf160
  v138:=Tryd.zeroValue160
  t139:=Tryd.underlying161
  a139:=Tryd.isAgg161
  z139:=Tryd.sizeOf161
  v139:=Tryd.zeroValue161
  g3:=by kernel_rfl
  g4:=by kernel_rfl }
def Tryd.lays143_ren:Go.Shelf.Ren:=⟨fun|143=>86|219=>107|217=>123|225=>124|224=>125|267=>126|266=>137|314=>138|n=>n,fun|9=>9|3=>3|4=>4|5=>5|46=>150|146=>156|51=>155|n=>n,fun|1=>0|n=>n⟩
theorem Tryd.lays143:Go.Proofs.Lays.n143 Tryd.prog Tryd.lays143_ren:={
  mixed:=by kernel_rfl
  f143:=Tryd.func86.trans (congrArg some (by kernel_rfl))
  f217:=Tryd.func123.trans (congrArg some (by kernel_rfl))
  f219:=Tryd.func107.trans (congrArg some (by kernel_rfl))
  f224:=Tryd.func125.trans (congrArg some (by kernel_rfl))
  f225:=Tryd.func124.trans (congrArg some (by kernel_rfl))
  f266:=Tryd.func137.trans (congrArg some (by kernel_rfl))
  f267:=Tryd.func126.trans (congrArg some (by kernel_rfl))
  f314:=Tryd.func138.trans (congrArg some (by kernel_rfl))
  t3:=Tryd.underlying3
  a3:=Tryd.isAgg3
  z3:=Tryd.sizeOf3
  v3:=Tryd.zeroValue3
  t4:=Tryd.underlying4
  a4:=Tryd.isAgg4
  z4:=Tryd.sizeOf4
  v4:=Tryd.zeroValue4
  t5:=Tryd.underlying5
  a5:=Tryd.isAgg5
  z5:=Tryd.sizeOf5
  v5:=Tryd.zeroValue5
  t9:=Tryd.underlying9
  a9:=Tryd.isAgg9
  z9:=Tryd.sizeOf9
  v9:=Tryd.zeroValue9
  t46:=Tryd.underlying150
  a46:=Tryd.isAgg150
  z46:=Tryd.sizeOf150
  v46:=Tryd.zeroValue150
  t51:=Tryd.underlying155
  a51:=Tryd.isAgg155
  z51:=Tryd.sizeOf155
  v51:=Tryd.zeroValue155
  t146:=Tryd.underlying156
  a146:=Tryd.isAgg156
  z146:=Tryd.sizeOf156
  v146:=Tryd.zeroValue156
  g1:=by kernel_rfl }
open Go.RowKit Go.Lib in
theorem Tryd.strings_Index_one (s:ByteArray) (c:UInt8) (w:World) :
    Calls Tryd.prog 86 #[.string s, .string ⟨#[c]⟩] w fun e w'=>e = .returned (.int .i64 (Lib.indexByte s.data.toList c))∧w'=w:=Any.strings_Index_one Tryd.lays143 s c w
end Go.Proofs
namespace Go.Proofs.YthcnfflhejogfaaDoor.X
open Go.RowKit YthcnfflhejogfaaDoorW.PrintWords YthcnfflhejogfaaDoorW.PrintLast YthcnfflhejogfaaDoorW.PrintMore
def strings_Index.f (s sub:ByteArray):Option Int:=match sub.data.toList with|[c]=>some (Lib.indexByte s.data.toList c)|_=>none
theorem one_byte {sub:ByteArray} {c:UInt8} (h:sub.data.toList=[c]):sub=⟨#[c]⟩:=ByteArray.ext (Array.toList_inj.1 h)
theorem strings_Index.calls (a0 a1:ByteArray) (r:Int) (w:World) (h:strings_Index.f a0 a1=some r):Calls Tryd.prog 86 #[.string a0, .string a1] w fun e w'=>e = .returned (.int .i64 r)∧Drawn0 w w':=by
 (unfold strings_Index.f at h);(split at h);(· rename_i c e;obtain rfl:=one_byte e;have h:=Option.some.inj h;subst h;refine(Tryd.strings_Index_one a0 c w).mono ?_;rintro e w1 ⟨rfl,he⟩;exact⟨rfl,he ▸ Drawn0.refl _⟩);(· cases h)
def strings_Contains.f (s sub:ByteArray):Option Bool:=match sub.data.toList with|[c]=>some (decide (0≤Lib.indexByte s.data.toList c))|_=>none
theorem strings_Contains.calls (a0 a1:ByteArray) (r:Bool) (w:World) (h:strings_Contains.f a0 a1=some r):Calls Tryd.prog 62 #[.string a0, .string a1] w fun e w'=>e = .returned (.bool r)∧Drawn0 w w':=by
 (unfold strings_Contains.f at h);(split at h);(· rename_i c e;obtain rfl:=one_byte e;have h:=Option.some.inj h;subst h;obtain⟨q,hq⟩ : ∃ q,Lib.indexByte a0.data.toList c=q:=⟨_,rfl⟩;rw[hq];have HQ:=Aside0.mk hq;clear hq;go_enter Tryd.func62,Tryd.ntmps62;(go_wp2_with fail);refine(Tryd.strings_Index_one a0 c _).mono ?_;rintro e w1 ⟨rfl,he⟩;obtain rfl:=he.symm;clear he;rw[HQ.out];go_wp2;go_ret;exact⟨rfl,Drawn0.refl _⟩);(· cases h)
end Go.Proofs.YthcnfflhejogfaaDoor.X
namespace Go.Proofs.YthcnfflhejogfaaDoor.X
open Go.RowKit YthcnfflhejogfaaDoorW.PrintWords YthcnfflhejogfaaDoorW.PrintLast YthcnfflhejogfaaDoorW.PrintMore
attribute [local go_sem] max2_int min2_int max_two min_two max_three min_three max_four min_four
def lines_May.l0:Nat→List ByteArray→List ByteArray→Int→Int→Option (Bool)
  | 0,_,_,_,_=>none
  | k+1,x0,x7,x8,x9=>if x9 < x8 then (if 0≤x9 then (if x9 < (x7.length:Int) then ((strings_Index.f (rdOf ByteArray.empty x7 x9) (⟨#[10]⟩:ByteArray)).bind fun t102=>(if t102 < 0 then (if ((rdOf ByteArray.empty x7 x9).size:Int) > 0 then (if (x9=(wrap64 ((x0.length:Int) - 1))) then (lines_May.l0 k x0 x7 x8 (wrap64 (x9+1))) else (some false)) else (some false)) else (if t102=(wrap64 (((rdOf ByteArray.empty x7 x9).size:Int) - 1)) then (lines_May.l0 k x0 x7 x8 (wrap64 (x9+1))) else (some false)))) else (none)) else (none)) else (some true)
def lines_May.f (k:Nat) (l0:List ByteArray):Option (Bool):=lines_May.l0 k l0 l0 (l0.length:Int) 0
theorem lines_May.calls (k:Nat) (A0:Option Addr) (c0:Nat) (l0:List ByteArray) (r:Bool) (w:World) (hr0:Kd.C Kd.string w A0 l0.length l0) (hc0:l0.length≤c0) (h:lines_May.f k l0=some r) :
    Calls Tryd.prog 65 #[.slice A0 l0.length c0] w fun e w'=>e = .returned (.bool r)∧Drawn0 w w':=by
 have HR0:=Aside0.mk hr0;have HC0:=Aside0.mk hc0;clear hr0 hc0;have H:=h;(rw[lines_May.f] at H);clear h;have H':=Aside0.mk H;clear H;go_enter Tryd.func65,Tryd.ntmps65;go_wp2
 go_loopg [9] k (fun kq v9 w' => ∃ (x9_1:Int),v9 = .int .i64 x9_1∧Aside0 (lines_May.l0 kq l0 l0 (l0.length:Int) x9_1=some r)∧Aside0 (kq≤k)∧Drawn0 w w')
 (case atStart=>exact⟨(0),rs_,H',⟨Nat.le_refl _⟩,d0_⟩)
 case round =>
  clear H';obtain⟨x9_1,rfl,HA,HK1,⟨m1,rfl⟩⟩:=hrel
  cases gk with
  | zero=>exact absurd HA.out (by simp[lines_May.l0])
  | succ k1 =>
   have H:=HA.out;clear HA;(simp only[lines_May.l0] at H)
   by_cases c2:x9_1 < (l0.length:Int)
   ·
    (rw[if_pos c2] at H);have c2b0:decide (x9_1 < (l0.length:Int))=true:=decide_eq_true c2;clear c2
    by_cases c3:0≤x9_1
    ·
     (rw[if_pos c3] at H);have c3b0:decide (0≤x9_1)=true:=decide_eq_true c3;clear c3
     by_cases c4:x9_1 < (l0.length:Int)
     ·
      (rw[if_pos c4] at H);have c4b0:decide (x9_1 < (l0.length:Int))=true:=decide_eq_true c4;clear c4;replace H:=Option.bind_eq_some_iff.mp H;obtain⟨t102,A50,H⟩:=H;(try dsimp only at H);have A5:=Aside0.mk A50;clear A50
      by_cases c6:t102 < 0
      ·
       (rw[if_pos c6] at H);have c6b0:decide (t102 < 0)=true:=decide_eq_true c6;clear c6
       by_cases c7:((rdOf ByteArray.empty l0 x9_1).size:Int) > 0
       ·
        (rw[if_pos c7] at H);have c7b0:decide (0 < ((rdOf ByteArray.empty l0 x9_1).size:Int))=true:=decide_eq_true c7;have c7b1:decide (0 < (rdOf ByteArray.empty l0 x9_1).size)=true:=decide_eq_true (by omega);clear c7
        by_cases c8:(x9_1=(wrap64 ((l0.length:Int) - 1)))
        ·
         (rw[if_pos c8] at H);have c8b0:(x9_1 == (wrap64 ((l0.length:Int) - 1)))=true:=beq_iff_eq.mpr c8;have c8b1:(x9_1 != (wrap64 ((l0.length:Int) - 1)))=false:=bne_eq_false_iff_eq.mpr c8;clear c8;have H':=Aside0.mk H;clear H;have p101:0≤(x9_1:Int):=dt_;have q101:x9_1 < (l0.length:Int):=dt_;obtain⟨ad101,e101,hx101_0⟩:=Kd.at_string HR0.out x9_1 p101 q101;cases e101;replace p101:=eq_true p101;replace q101:=eq_true q101;(go_wp2_with (first|((with_reducible refine gate_callee (f:=86) rfl ?_);refine goesL_ (some 15) rfl rfl Tryd.func86 (by kernel_rfl) rfl #[.string (rdOf ByteArray.empty l0 x9_1), .string (⟨#[10]⟩:ByteArray)] rfl am_ ?_;(with_reducible refine(strings_Index.calls (rdOf ByteArray.empty l0 x9_1) (⟨#[10]⟩:ByteArray) t102 _ A5.out).mono ?_);rintro e w' ⟨rfl,⟨nd,rfl⟩⟩;refine⟨_,rfl,?_⟩)))
         go_roundg k1
         (case measure=>have:=HK1.out;omega);(case rel=>exact⟨(wrap64 (x9_1+1)),rs_,H',⟨by have:=HK1.out;omega⟩,d0_⟩)
        (· (rw[if_neg c8] at H);have c8b0:(x9_1 == (wrap64 ((l0.length:Int) - 1)))=false:=beq_eq_false_iff_ne.mpr c8;have c8b1:(x9_1 != (wrap64 ((l0.length:Int) - 1)))=true:=bne_iff_ne.mpr c8;obtain rfl:=Option.some.inj H;have p101:0≤(x9_1:Int):=dt_;have q101:x9_1 < (l0.length:Int):=dt_;obtain⟨ad101,e101,hx101_0⟩:=Kd.at_string HR0.out x9_1 p101 q101;cases e101;replace p101:=eq_true p101;replace q101:=eq_true q101;(go_wp2_with (first|((with_reducible refine gate_callee (f:=86) rfl ?_);refine goesL_ (some 15) rfl rfl Tryd.func86 (by kernel_rfl) rfl #[.string (rdOf ByteArray.empty l0 x9_1), .string (⟨#[10]⟩:ByteArray)] rfl am_ ?_;(with_reducible refine(strings_Index.calls (rdOf ByteArray.empty l0 x9_1) (⟨#[10]⟩:ByteArray) t102 _ A5.out).mono ?_);rintro e w' ⟨rfl,⟨nd,rfl⟩⟩;refine⟨_,rfl,?_⟩)));go_ret;exact⟨by first|rfl|(simp;done)|(simp[*];done),d0_⟩)
       (· (rw[if_neg c7] at H);have c7b0:decide (0 < ((rdOf ByteArray.empty l0 x9_1).size:Int))=false:=decide_eq_false c7;have c7b1:decide (0 < (rdOf ByteArray.empty l0 x9_1).size)=false:=decide_eq_false (by omega);clear c7;obtain rfl:=Option.some.inj H;have p101:0≤(x9_1:Int):=dt_;have q101:x9_1 < (l0.length:Int):=dt_;obtain⟨ad101,e101,hx101_0⟩:=Kd.at_string HR0.out x9_1 p101 q101;cases e101;replace p101:=eq_true p101;replace q101:=eq_true q101;(go_wp2_with (first|((with_reducible refine gate_callee (f:=86) rfl ?_);refine goesL_ (some 15) rfl rfl Tryd.func86 (by kernel_rfl) rfl #[.string (rdOf ByteArray.empty l0 x9_1), .string (⟨#[10]⟩:ByteArray)] rfl am_ ?_;(with_reducible refine(strings_Index.calls (rdOf ByteArray.empty l0 x9_1) (⟨#[10]⟩:ByteArray) t102 _ A5.out).mono ?_);rintro e w' ⟨rfl,⟨nd,rfl⟩⟩;refine⟨_,rfl,?_⟩)));go_ret;exact⟨by first|rfl|(simp;done)|(simp[*];done),d0_⟩)
      ·
       (rw[if_neg c6] at H);have c6b0:decide (t102 < 0)=false:=decide_eq_false c6;clear c6
       by_cases c9:t102=(wrap64 (((rdOf ByteArray.empty l0 x9_1).size:Int) - 1))
       ·
        (rw[if_pos c9] at H);have c9b0:(t102 == (wrap64 (((rdOf ByteArray.empty l0 x9_1).size:Int) - 1)))=true:=beq_iff_eq.mpr c9;have c9b1:(t102 != (wrap64 (((rdOf ByteArray.empty l0 x9_1).size:Int) - 1)))=false:=bne_eq_false_iff_eq.mpr c9;clear c9;have H':=Aside0.mk H;clear H;have p101:0≤(x9_1:Int):=dt_;have q101:x9_1 < (l0.length:Int):=dt_;obtain⟨ad101,e101,hx101_0⟩:=Kd.at_string HR0.out x9_1 p101 q101;cases e101;replace p101:=eq_true p101;replace q101:=eq_true q101;(go_wp2_with (first|((with_reducible refine gate_callee (f:=86) rfl ?_);refine goesL_ (some 15) rfl rfl Tryd.func86 (by kernel_rfl) rfl #[.string (rdOf ByteArray.empty l0 x9_1), .string (⟨#[10]⟩:ByteArray)] rfl am_ ?_;(with_reducible refine(strings_Index.calls (rdOf ByteArray.empty l0 x9_1) (⟨#[10]⟩:ByteArray) t102 _ A5.out).mono ?_);rintro e w' ⟨rfl,⟨nd,rfl⟩⟩;refine⟨_,rfl,?_⟩)))
        go_roundg k1
        (case measure=>have:=HK1.out;omega);(case rel=>exact⟨(wrap64 (x9_1+1)),rs_,H',⟨by have:=HK1.out;omega⟩,d0_⟩)
       (· (rw[if_neg c9] at H);have c9b0:(t102 == (wrap64 (((rdOf ByteArray.empty l0 x9_1).size:Int) - 1)))=false:=beq_eq_false_iff_ne.mpr c9;have c9b1:(t102 != (wrap64 (((rdOf ByteArray.empty l0 x9_1).size:Int) - 1)))=true:=bne_iff_ne.mpr c9;obtain rfl:=Option.some.inj H;have p101:0≤(x9_1:Int):=dt_;have q101:x9_1 < (l0.length:Int):=dt_;obtain⟨ad101,e101,hx101_0⟩:=Kd.at_string HR0.out x9_1 p101 q101;cases e101;replace p101:=eq_true p101;replace q101:=eq_true q101;(go_wp2_with (first|((with_reducible refine gate_callee (f:=86) rfl ?_);refine goesL_ (some 15) rfl rfl Tryd.func86 (by kernel_rfl) rfl #[.string (rdOf ByteArray.empty l0 x9_1), .string (⟨#[10]⟩:ByteArray)] rfl am_ ?_;(with_reducible refine(strings_Index.calls (rdOf ByteArray.empty l0 x9_1) (⟨#[10]⟩:ByteArray) t102 _ A5.out).mono ?_);rintro e w' ⟨rfl,⟨nd,rfl⟩⟩;refine⟨_,rfl,?_⟩)));go_ret;exact⟨by first|rfl|(simp;done)|(simp[*];done),d0_⟩)
     (· exact nx_ c4 H)
    (· exact nx_ c3 H)
   (· (rw[if_neg c2] at H);have c2b0:decide (x9_1 < (l0.length:Int))=false:=decide_eq_false c2;clear c2;obtain rfl:=Option.some.inj H;go_wp2;go_ret;exact⟨by first|rfl|(simp;done)|(simp[*];done),d0_⟩)
def table_Lost.f (a0_0:ByteArray) (a0_1:ByteArray):Option (Bool):=(strings_Contains.f a0_0 (⟨#[45]⟩:ByteArray)).bind fun t104=>(some t104)
theorem table_Lost.calls (a0_0:ByteArray) (a0_1:ByteArray) (r:Bool) (w:World) (h:table_Lost.f a0_0 a0_1=some r) :
    Calls Tryd.prog 68 #[.agg #[.string a0_0, .string a0_1]] w fun e w'=>e = .returned (.bool r)∧Below w.heap.size w w':=by
 have hu57:=Tryd.underlying57;have HB:=Aside0.mk (Below.refl w.heap.size w);have H:=h;(rw[table_Lost.f] at H);clear h;replace H:=Option.bind_eq_some_iff.mp H;obtain⟨t104,A20,H⟩:=H;(try dsimp only at H);have A2:=Aside0.mk A20;clear A20;obtain rfl:=Option.some.inj H;go_enter Tryd.func68,Tryd.ntmps68;(go_wp2_with (first|((with_reducible refine gate_dst (N:=1) rfl ?_);refine box_event ?hg (N:=1) ?hd (cs:=#[.string a0_0, .string a0_1]) (t:=57) ?hr ?_;(case hd=>rfl);(case hg=>rfl);(case hr=>first|(go_simp;done)|(go_simp;rfl));intro gb103 hg w3 hbox hb;have BK103:=Aside0.mk (hbox);have GW103:=Aside0.mk ((by rw[hg];exact(bsz bel_):w.heap.size≤gb103));have GE103:=Aside0.mk ((by rw[hg];exact(bsz bel_):w.heap.size≤gb103));replace HB:=Aside0.mk (bst bel_ hb);clear hb hbox hg;have hcz4_0:w3.cell? ⟨gb103,0,none⟩=some (.string a0_0):=(bcl BK103.out 0).trans rfl;have hcz4_1:w3.cell? ⟨gb103,1,none⟩=some (.string a0_1):=(bcl BK103.out 1).trans rfl;have hfz4_0:=bfz BK103.out 0;have hfz4_1:=bfz BK103.out 1)|((with_reducible refine gate_callee (f:=62) rfl ?_);refine goesL_ (some 5) rfl rfl Tryd.func62 (by kernel_rfl) rfl #[.string a0_0, .string (⟨#[45]⟩:ByteArray)] rfl am_ ?_;(with_reducible refine(strings_Contains.calls a0_0 (⟨#[45]⟩:ByteArray) t104 _ A2.out).mono ?_);rintro e w' ⟨rfl,⟨nd,rfl⟩⟩;refine⟨_,rfl,?_⟩)));go_ret;exact⟨by first|rfl|(simp[errW_none,errW_some] <;> rfl)|(simp[*,errW_none,errW_some] <;> rfl),by repeat(first|(with_reducible first|exact HB.out|apply below_alloc|apply pw_below_drewN|apply below_drew1|refine below_set ?_ GE103.out)|exact HB.out)⟩
end Go.Proofs.YthcnfflhejogfaaDoor.X
namespace Go.Proofs.YthcnfflhejogfaaDoor.X
open Go.RowKit YthcnfflhejogfaaDoorW.PrintWords YthcnfflhejogfaaDoorW.PrintLast YthcnfflhejogfaaDoorW.PrintMore
def lostB (s:ByteArray):Bool:=decide (0≤Lib.indexByte s.data.toList 45)
theorem table_lost (x0 x1:ByteArray) (w:World):Calls Tryd.prog 68 #[.agg #[.string x0, .string x1]] w fun e w'=>e = .returned (.bool (lostB x0))∧Below w.heap.size w w' :=
  table_Lost.calls x0 x1 (lostB x0) w rfl
theorem ask_Result (x0 x1:ByteArray) (w:World):Calls Tryd.prog 67 #[.agg #[.string x0, .string x1]] w fun e w'=>e = .returned (.bool (!lostB x0))∧Aside0 (Below w.heap.size w w'):=by
 go_enter Tryd.func67,Tryd.ntmps67;(go_wp2_with fail);refine(table_lost x0 x1 _).mono ?_;rintro e w1 ⟨rfl,hb⟩;have HB:Aside0 (Below w.heap.size w w1):=⟨((Below.refl _ w).alloc (Nat.le_refl _) _).trans (hb.mono (by simp))⟩;clear hb;go_wp2;go_ret;exact⟨rfl,HB⟩
def ofB (i:Int) (s:ByteArray):Bool:=decide (0≤i) && (decide (i < (s.size:Int)) && (decide (bt s i=45) || (decide (bt s i=32) && !lostB s)))
theorem ofB_cases (i:Int) (s:ByteArray):(i < 0∧ofB i s=false)∨(∃ n:Nat,i=(n:Int)∧s.size≤n∧ofB i s=false)∨(∃ (n:Nat) (h:n < s.size),i=(n:Int)∧ofB i s=(decide (s[n]=45) || (decide (s[n]=32) && !lostB s))):=by
 by_cases h0:i < 0
 (· exact .inl ⟨h0,by rw[ofB,decide_eq_false (by omega)];rfl⟩)
 ·
  obtain⟨n,rfl⟩ : ∃ n:Nat,i=(n:Int):=⟨i.toNat,by omega⟩
  by_cases h1:n < s.size
  ·
   refine .inr (.inr ⟨n,h1,rfl,?_⟩);(have e:bt s (n:Int)=(s[n].toNat:Int):=by simp[bt,h1])
   have c : ∀ c:UInt8,decide ((s[n].toNat:Int)=(c.toNat:Int))=decide (s[n]=c):=fun c=>by
    rw[decide_eq_decide];constructor;(· (intro h;exact UInt8.toNat_inj.1 (by omega)));(· (intro h;rw[h]))
   have c1:=c 45;have c2:=c 32;have e1:(((45:UInt8).toNat:Nat):Int)=45:=rfl;have e2:(((32:UInt8).toNat:Nat):Int)=32:=rfl;(rw[e1] at c1);(rw[e2] at c2);(rw[ofB,decide_eq_true (by omega),decide_eq_true (by omega),e,c1,c2];rfl)
  (· exact .inr (.inl ⟨n,rfl,by omega,by rw[ofB,decide_eq_false (show ¬ (n:Int) < s.size by omega)];simp⟩))
set_option maxHeartbeats 2000000 in
theorem ask_Column (g:Nat) (i:Int) (x0 x1:ByteArray) (w:World) (hc:w.cell? ⟨g,0,none⟩=some (.int .i64 i)) (hs:x0.size≤1000000000000):Calls Tryd.prog 69 #[.agg #[.string x0, .string x1], .pointer (some ⟨g,0,none⟩)] w fun e w'=>e = .returned (.bool (ofB i x0))∧Aside0 (Below w.heap.size w w'):=by
 have hg:g < w.heap.size:=World.block_lt_of_cell? w _ hc;(have hc1 : ∀ o,(w.alloc o).cell? ⟨g,0,none⟩=some (.int .i64 i):=fun o=>cell_alloc_of hc o);(have hbl : ∀ o,Below w.heap.size w (w.alloc o):=fun o=>(Below.refl _ w).alloc (Nat.le_refl _) o);have HBL:=Aside0.mk hbl;clear hbl
 rcases ofB_cases i x0 with ⟨h0,he⟩|⟨n,rfl,h1,he⟩|⟨n,h1,rfl,he⟩
 (· have d1:decide (0≤i)=false:=decide_eq_false (by omega);rw[he];clear he;go_enter Tryd.func69,Tryd.ntmps69;go_wp2;go_ret;exact⟨rfl,⟨HBL.out _⟩⟩);(· have d1:decide ((0:Int)≤(n:Int))=true:=decide_eq_true (by omega);have d2:decide ((n:Int) < (x0.size:Int))=false:=decide_eq_false (by omega);have d3:decide (n < x0.size)=false:=decide_eq_false (by omega);rw[he];clear he;go_enter Tryd.func69,Tryd.ntmps69;go_wp2;go_ret;exact⟨rfl,⟨HBL.out _⟩⟩)
 ·
  have d1:decide ((0:Int)≤(n:Int))=true:=decide_eq_true (by omega);have d2:decide ((n:Int) < (x0.size:Int))=true:=decide_eq_true (by omega);have d3:decide (n < x0.size)=true:=decide_eq_true (by omega);rw[he];clear he;obtain⟨c,hcc⟩ : ∃ c,x0[n]=c:=⟨_,rfl⟩;rw[hcc]
  by_cases e45:c=45
  (· subst e45;go_enter Tryd.func69,Tryd.ntmps69;go_wp2;go_ret;exact⟨rfl,⟨HBL.out _⟩⟩)
  ·
   (have n45 : ¬ ((c.toNat:Nat):Int)=45:=fun h=>e45 (UInt8.toNat_inj.1 (by show _=45;omega)));(have b45:(((c.toNat:Nat):Int) == 45)=false:=by simpa using n45);have b45':decide (((c.toNat:Nat):Int)=45)=false:=decide_eq_false n45;rw[decide_eq_false e45,Bool.false_or]
   by_cases e32:c=32
   ·
    subst e32;cases hl:lostB x0
    all_goals
     have HLB:=Aside0.mk hl;clear hl;go_enter Tryd.func69,Tryd.ntmps69;(go_wp2_with fail);refine(table_lost x0 x1 _).mono ?_;rintro e w1 ⟨rfl,hb⟩;have HB:Aside0 (Below w.heap.size w w1):=⟨(HBL.out _).trans (hb.mono (by simp))⟩;clear hb;rw[HLB.out];go_wp2;go_ret;exact⟨rfl,HB⟩
   (· (have n32 : ¬ ((c.toNat:Nat):Int)=32:=fun h=>e32 (UInt8.toNat_inj.1 (by show _=32;omega)));(have b32:(((c.toNat:Nat):Int) == 32)=false:=by simpa using n32);have b32':decide (((c.toNat:Nat):Int)=32)=false:=decide_eq_false n32;rw[decide_eq_false e32];go_enter Tryd.func69,Tryd.ntmps69;go_wp2;go_ret;exact⟨rfl,⟨HBL.out _⟩⟩)
set_option maxHeartbeats 2000000 in
theorem texts_Result (A:Option Addr) (c:Nat) (rows:List S57) (w:World) (hC:Kd.C k57 w A rows.length rows) (hc:rows.length≤c) (hn:rows.length≤1000000000) (hsz : ∀ x ∈ rows,x.f0.size≤1000000000000) :
    Calls Tryd.prog 66 #[.slice A rows.length c, .func (.func 67) #[] #[]] w fun e w' => ∃ v,e = .returned v∧Aside0 (Kd.R Kd.string 9 w' w.heap.size (fun _=>True) v ((rows.filter (fun x:S57 => !lostB x.f0)).map (·.f1)))∧Aside0 (Below w.heap.size w w'):=by
 have HC:=Aside0.mk hC;have HSZ:=Aside0.mk hsz;have _t:=trivial;clear hC hsz;go_enter Tryd.func66,Tryd.ntmps66;(go_wp2_with fail)
 go_loopw [5,10] (fun v iv wr => ∃ (k:Nat) (Ao:Option Addr) (co m:Nat),v = .slice Ao m co∧iv = .int .i64 k∧k≤rows.length∧Aside0 (Kd.R Kd.string 9 wr w.heap.size (fun _=>True) (.slice Ao m co) (((rows.take k).filter (fun x:S57 => !lostB x.f0)).map (·.f1)))∧Aside0 (Below w.heap.size w wr)) (fun _ iv _=>rows.length - (intOf iv).toNat)
 (case atStart=>exact⟨0,_,_,_,rfl,rfl,Nat.zero_le _,⟨Kd.R_nil _ _ _ _ _⟩,⟨Below.refl _ _⟩⟩)
 case round =>
  obtain⟨k,Ao,co,m,rfl,rfl,hk,HR,HB⟩:=hrel
  by_cases hlt:k < rows.length
  ·
   obtain⟨ad,rfl,x0,x1⟩:=at_T57 HC.out (k:Int) (by omega) (by omega);have hx:rd_T57 rows (k:Int)=rows[k]:=getN hlt;have htk:rows.take (k+1)=rows.take k ++ [rows[k]]:=(List.take_append_getElem hlt).symm;have hxs:=HSZ.out _ (List.getElem_mem hlt);obtain⟨x,hxe⟩ : ∃ x,rows[k]=x:=⟨_,rfl⟩;(rw[hx,hxe] at x0 x1);(rw[hxe] at htk hxs);have HTK:=Aside0.mk htk;have HXS:=Aside0.mk hxs
   have hm:(((rows.take k).filter (fun x:S57 => !lostB x.f0)).map (·.f1)).length≤1000000000:=by
    rw[List.length_map];have:=List.length_filter_le (fun x:S57 => !lostB x.f0) (rows.take k);(rw[List.length_take] at this);omega
   have HM:=Aside0.mk hm;clear hx hxe htk hxs hm;replace x0:=(HB.out.cell (World.block_lt_of_cell? w _ x0)).trans x0;replace x1:=(HB.out.cell (World.block_lt_of_cell? w _ x1)).trans x1;(have kk:(k:Int).toNat=k:=by omega);(rw[kk] at x0 x1);clear kk;have HW2:Aside0 (Below w.heap.size w (wr.alloc (.cells #[.string x.f0, .string x.f1] 57))):=⟨HB.out.alloc HB.out.size _⟩;obtain⟨q,hq⟩ : ∃ q,(!lostB x.f0)=q:=⟨_,rfl⟩;have HQ:=Aside0.mk hq;clear hq
   have HF:Aside0 (((rows.take (k+1)).filter (fun x:S57 => !lostB x.f0)).map (·.f1)=((rows.take k).filter (fun x:S57 => !lostB x.f0)).map (·.f1) ++ if q=true then [x.f1] else []):=⟨by
    rw[HTK.out,List.filter_append,List.map_append]
    congr 1
    rw[List.filter_cons,HQ.out]
    cases q <;> rfl⟩
   (go_wp2_with fail);refine((ask_Result x.f0 x.f1 _)).mono ?_;rintro e w1 ⟨rfl,hb1⟩;have HB1:Aside0 (Below w.heap.size w w1):=⟨HW2.out.trans (hb1.out.mono HW2.out.size)⟩;have c1:w1.cell? ⟨wr.heap.size,1,none⟩=some (.string x.f1):=(hb1.out.cell (by simp)).trans (cell_blk (blk_new wr _) rfl);have HR1:Aside0 (Kd.R Kd.string 9 w1 w.heap.size (fun _=>True) (.slice Ao m co) (((rows.take k).filter (fun x:S57 => !lostB x.f0)).map (·.f1))):=⟨Kd.R_below (Kd.R_below HR.out ((Below.refl _ wr).alloc (Nat.le_refl _) _)) hb1.out⟩;rw[HQ.out];clear hb1 HR HQ;cases q;(· (rw[if_neg (by decide),List.append_nil] at HF);go_wp2;go_roundw;(case measure=>simp[intOf];omega);(case rel=>exact⟨k+1,_,_,_,rfl,by go_num,by omega,by rw[HF.out];exact HR1,HB1⟩))
   ·
    (rw[if_pos rfl] at HF)
    go_wp2_with (first
     | (at_builtin;refine Kd.R_append Kd.string (w0:=w) w.heap.size rfl (.tmp 17) (.tmp 20) 23 9 (.string ⟨#[]⟩) 16 rfl Tryd.underlying23 info9 rfl (by decide) (by decide) (.slice Ao m co) (((rows.take k).filter (fun x:S57 => !lostB x.f0)).map (·.f1)) x.f1 [.string x.f1] (fun _=>True) (fun _=>False) rfl rfl rfl (fun _ h=>h.elim) (fun _ _=>trivial) HR1.out HB1.out HB1.out.size (by have:=HM.out;omega) ?_;intro v2 w2 ho2 hb2 hg2 hat2;obtain⟨A2,c2,hv2⟩:=Kd.R_slice ho2;subst hv2;generalize (((rows.take k).filter (fun x:S57 => !lostB x.f0)).map (·.f1) ++ [x.f1]).length=m2 at ho2 ⊢;have HO2:=Aside0.mk ho2;have HB2:=Aside0.mk hb2;clear ho2 hb2 hg2 hat2))
    go_roundw;(case measure=>simp[intOf];omega);(case rel=>exact⟨k+1,_,_,_,rfl,by go_num,by omega,by rw[HF.out];exact HO2,HB2⟩)
  (· (have hk':k=rows.length:=by omega);subst hk';(rw[List.take_length] at HR);go_wp2;go_ret;exact⟨_,rfl,HR,HB⟩)
set_option maxHeartbeats 2000000 in
theorem texts_Column (A:Option Addr) (c:Nat) (rows:List S57) (g:Nat) (i:Int) (w:World) (hcap:w.cell? ⟨g,0,none⟩=some (.int .i64 i)) (hC:Kd.C k57 w A rows.length rows) (hc:rows.length≤c) (hn:rows.length≤1000000000) (hsz : ∀ x ∈ rows,x.f0.size≤1000000000000) :
    Calls Tryd.prog 66 #[.slice A rows.length c, .func (.func 69) #[] #[.pointer (some ⟨g,0,none⟩)]] w fun e w' => ∃ v,e = .returned v∧Aside0 (Kd.R Kd.string 9 w' w.heap.size (fun _=>True) v ((rows.filter (fun x:S57=>ofB i x.f0)).map (·.f1)))∧Aside0 (Below w.heap.size w w'):=by
 have HC:=Aside0.mk hC;have HSZ:=Aside0.mk hsz;(have HCAP:=Aside0.mk hcap;clear hcap);clear hC hsz;go_enter Tryd.func66,Tryd.ntmps66;(go_wp2_with fail)
 go_loopw [5,10] (fun v iv wr => ∃ (k:Nat) (Ao:Option Addr) (co m:Nat),v = .slice Ao m co∧iv = .int .i64 k∧k≤rows.length∧Aside0 (Kd.R Kd.string 9 wr w.heap.size (fun _=>True) (.slice Ao m co) (((rows.take k).filter (fun x:S57=>ofB i x.f0)).map (·.f1)))∧Aside0 (Below w.heap.size w wr)) (fun _ iv _=>rows.length - (intOf iv).toNat)
 (case atStart=>exact⟨0,_,_,_,rfl,rfl,Nat.zero_le _,⟨Kd.R_nil _ _ _ _ _⟩,⟨Below.refl _ _⟩⟩)
 case round =>
  obtain⟨k,Ao,co,m,rfl,rfl,hk,HR,HB⟩:=hrel
  by_cases hlt:k < rows.length
  ·
   obtain⟨ad,rfl,x0,x1⟩:=at_T57 HC.out (k:Int) (by omega) (by omega);have hx:rd_T57 rows (k:Int)=rows[k]:=getN hlt;have htk:rows.take (k+1)=rows.take k ++ [rows[k]]:=(List.take_append_getElem hlt).symm;have hxs:=HSZ.out _ (List.getElem_mem hlt);obtain⟨x,hxe⟩ : ∃ x,rows[k]=x:=⟨_,rfl⟩;(rw[hx,hxe] at x0 x1);(rw[hxe] at htk hxs);have HTK:=Aside0.mk htk;have HXS:=Aside0.mk hxs
   have hm:(((rows.take k).filter (fun x:S57=>ofB i x.f0)).map (·.f1)).length≤1000000000:=by
    rw[List.length_map];have:=List.length_filter_le (fun x:S57=>ofB i x.f0) (rows.take k);(rw[List.length_take] at this);omega
   have HM:=Aside0.mk hm;clear hx hxe htk hxs hm;replace x0:=(HB.out.cell (World.block_lt_of_cell? w _ x0)).trans x0;replace x1:=(HB.out.cell (World.block_lt_of_cell? w _ x1)).trans x1;(have kk:(k:Int).toNat=k:=by omega);(rw[kk] at x0 x1);clear kk;have HW2:Aside0 (Below w.heap.size w (wr.alloc (.cells #[.string x.f0, .string x.f1] 57))):=⟨HB.out.alloc HB.out.size _⟩;obtain⟨q,hq⟩ : ∃ q,ofB i x.f0=q:=⟨_,rfl⟩;have HQ:=Aside0.mk hq;clear hq
   have HF:Aside0 (((rows.take (k+1)).filter (fun x:S57=>ofB i x.f0)).map (·.f1)=((rows.take k).filter (fun x:S57=>ofB i x.f0)).map (·.f1) ++ if q=true then [x.f1] else []):=⟨by
    rw[HTK.out,List.filter_append,List.map_append]
    congr 1
    rw[List.filter_cons,HQ.out]
    cases q <;> rfl⟩
   (go_wp2_with fail);refine((ask_Column g i x.f0 x.f1 _ ((HW2.out.cell (World.block_lt_of_cell? w _ HCAP.out)).trans HCAP.out) HXS.out)).mono ?_;rintro e w1 ⟨rfl,hb1⟩;have HB1:Aside0 (Below w.heap.size w w1):=⟨HW2.out.trans (hb1.out.mono HW2.out.size)⟩;have c1:w1.cell? ⟨wr.heap.size,1,none⟩=some (.string x.f1):=(hb1.out.cell (by simp)).trans (cell_blk (blk_new wr _) rfl);have HR1:Aside0 (Kd.R Kd.string 9 w1 w.heap.size (fun _=>True) (.slice Ao m co) (((rows.take k).filter (fun x:S57=>ofB i x.f0)).map (·.f1))):=⟨Kd.R_below (Kd.R_below HR.out ((Below.refl _ wr).alloc (Nat.le_refl _) _)) hb1.out⟩;rw[HQ.out];clear hb1 HR HQ;cases q;(· (rw[if_neg (by decide),List.append_nil] at HF);go_wp2;go_roundw;(case measure=>simp[intOf];omega);(case rel=>exact⟨k+1,_,_,_,rfl,by go_num,by omega,by rw[HF.out];exact HR1,HB1⟩))
   ·
    (rw[if_pos rfl] at HF)
    go_wp2_with (first
     | (at_builtin;refine Kd.R_append Kd.string (w0:=w) w.heap.size rfl (.tmp 17) (.tmp 20) 23 9 (.string ⟨#[]⟩) 16 rfl Tryd.underlying23 info9 rfl (by decide) (by decide) (.slice Ao m co) (((rows.take k).filter (fun x:S57=>ofB i x.f0)).map (·.f1)) x.f1 [.string x.f1] (fun _=>True) (fun _=>False) rfl rfl rfl (fun _ h=>h.elim) (fun _ _=>trivial) HR1.out HB1.out HB1.out.size (by have:=HM.out;omega) ?_;intro v2 w2 ho2 hb2 hg2 hat2;obtain⟨A2,c2,hv2⟩:=Kd.R_slice ho2;subst hv2;generalize (((rows.take k).filter (fun x:S57=>ofB i x.f0)).map (·.f1) ++ [x.f1]).length=m2 at ho2 ⊢;have HO2:=Aside0.mk ho2;have HB2:=Aside0.mk hb2;clear ho2 hb2 hg2 hat2))
    go_roundw;(case measure=>simp[intOf];omega);(case rel=>exact⟨k+1,_,_,_,rfl,by go_num,by omega,by rw[HF.out];exact HO2,HB2⟩)
  (· (have hk':k=rows.length:=by omega);subst hk';(rw[List.take_length] at HR);go_wp2;go_ret;exact⟨_,rfl,HR,HB⟩)
theorem table_Column (A:Option Addr) (c:Nat) (rows:List S57) (i:Int) (w:World) (hC:Kd.C k57 w A rows.length rows) (hc:rows.length≤c) (hn:rows.length≤1000000000) (hsz : ∀ x ∈ rows,x.f0.size≤1000000000000) :
    Calls Tryd.prog 39 #[.slice A rows.length c, .int .i64 i] w fun e w' => ∃ v,e = .returned v∧Aside0 (Kd.R Kd.string 9 w' w.heap.size (fun _=>True) v ((rows.filter (fun x=>ofB i x.f0)).map (·.f1)))∧Aside0 (Below w.heap.size w w'):=by
 have HC:=Aside0.mk hC;have HSZ:=Aside0.mk hsz;clear hC hsz;(have hmf : ∀ (fn:Fn) (first cap:Array Value) (w:World),(Instr.makeFunc fn first cap).run Tryd.prog w = .ok (.func fn first cap) w:=fun _ _ _ _=>rfl);go_enter Tryd.func39,Tryd.ntmps39;(go_wp2_with fail);refine(texts_Column A c rows w.heap.size i _ (cell_blk (blk_new w (.cells #[.int .i64 i] 3)) rfl) (Kd.C_alloc HC.out _) hc hn HSZ.out).mono ?_;rintro e w1 ⟨v,rfl,hr,hb⟩;have HR:Aside0 (Kd.R Kd.string 9 w1 w.heap.size (fun _=>True) v ((rows.filter (fun x=>ofB i x.f0)).map (·.f1))):=⟨Kd.R_lower hr.out (by simp)⟩;have HB:Aside0 (Below w.heap.size w w1):=⟨((Below.refl _ w).alloc (Nat.le_refl _) _).trans (hb.out.mono (by simp))⟩;clear hr hb;go_wp2;go_ret;exact⟨_,rfl,HR,HB⟩
theorem table_Result (A:Option Addr) (c:Nat) (rows:List S57) (w:World) (hC:Kd.C k57 w A rows.length rows) (hc:rows.length≤c) (hn:rows.length≤1000000000) (hsz : ∀ x ∈ rows,x.f0.size≤1000000000000) :
    Calls Tryd.prog 38 #[.slice A rows.length c] w fun e w' => ∃ v,e = .returned v∧Aside0 (Kd.R Kd.string 9 w' w.heap.size (fun _=>True) v ((rows.filter (fun x => !lostB x.f0)).map (·.f1)))∧Aside0 (Below w.heap.size w w'):=by
 have HC:=Aside0.mk hC;have HSZ:=Aside0.mk hsz;clear hC hsz;go_enter Tryd.func38,Tryd.ntmps38;(go_wp2_with fail);refine(texts_Result A c rows _ HC.out hc hn HSZ.out).mono ?_;rintro e w1 ⟨v,rfl,HR,HB⟩;go_wp2;go_ret;exact⟨_,rfl,HR,HB⟩
def table_Column.f (l0:List S57) (a1:Int):Option (List ByteArray):=if l0.length≤1000000000 ∧ ∀ x ∈ l0,x.f0.size≤1000000000000 then some ((l0.filter (fun x=>ofB a1 x.f0)).map (·.f1)) else none
theorem table_Column.calls (A0:Option Addr) (c0:Nat) (l0:List S57) (a1:Int) (r:List ByteArray) (w:World) (hr0:Kd.C k57 w A0 l0.length l0) (hc0:l0.length≤c0) (h:table_Column.f l0 a1=some r) :
    Calls Tryd.prog 39 #[.slice A0 l0.length c0, .int .i64 a1] w fun e w' => ∃ v0_:Value,e = .returned (v0_)∧Kd.R Kd.string 9 w' w.heap.size (fun _=>True) v0_ r∧Below w.heap.size w w':=by
 (unfold table_Column.f at h);(split at h);(· rename_i hf;obtain rfl:=Option.some.inj h;(exact(table_Column A0 c0 l0 a1 w hr0 hc0 hf.1 hf.2).mono fun e w' ⟨v,he,hr,hb⟩=>⟨v,he,hr.out,hb.out⟩));(· cases h)
def table_Result.f (l0:List S57):Option (List ByteArray):=if l0.length≤1000000000 ∧ ∀ x ∈ l0,x.f0.size≤1000000000000 then some ((l0.filter (fun x => !lostB x.f0)).map (·.f1)) else none
theorem table_Result.calls (A0:Option Addr) (c0:Nat) (l0:List S57) (r:List ByteArray) (w:World) (hr0:Kd.C k57 w A0 l0.length l0) (hc0:l0.length≤c0) (h:table_Result.f l0=some r) :
    Calls Tryd.prog 38 #[.slice A0 l0.length c0] w fun e w' => ∃ v0_:Value,e = .returned (v0_)∧Kd.R Kd.string 9 w' w.heap.size (fun _=>True) v0_ r∧Below w.heap.size w w':=by
 (unfold table_Result.f at h);(split at h);(· rename_i hf;obtain rfl:=Option.some.inj h;(exact(table_Result A0 c0 l0 w hr0 hc0 hf.1 hf.2).mono fun e w' ⟨v,he,hr,hb⟩=>⟨v,he,hr.out,hb.out⟩));(· cases h)
end Go.Proofs.YthcnfflhejogfaaDoor.X
namespace Go.Proofs.YthcnfflhejogfaaDoor.X
open Go.RowKit YthcnfflhejogfaaDoorW.PrintWords YthcnfflhejogfaaDoorW.PrintLast YthcnfflhejogfaaDoorW.PrintMore
attribute [local go_sem] max2_int min2_int max_two min_two max_three min_three max_four min_four
def patch_within.f (a0_0:Int) (a0_1:Int) (a1_0:Int) (a1_1:Int) (a2:Int):Option (Bool):=if a0_0 ≥ a1_1 then (if a0_0≤a0_1 then (if a0_1≤2000 then (some ((wrap64 (a0_1 - a0_0)) == a2)) else (some false)) else (some false)) else (some false)
theorem patch_within.calls (a0_0:Int) (a0_1:Int) (a1_0:Int) (a1_1:Int) (a2:Int) (r:Bool) (w:World) (h:patch_within.f a0_0 a0_1 a1_0 a1_1 a2=some r) :
    Calls Tryd.prog 114 #[.agg #[.int .i64 a0_0, .int .i64 a0_1], .agg #[.int .i64 a1_0, .int .i64 a1_1], .int .i64 a2] w fun e w'=>e = .returned (.bool r)∧Below w.heap.size w w':=by
 have hu45:=Tryd.underlying45;have HB:=Aside0.mk (Below.refl w.heap.size w);have H:=h;(rw[patch_within.f] at H);clear h
 by_cases c4:a0_0 ≥ a1_1
 ·
  (rw[if_pos c4] at H);have c4b0:decide (a1_1≤a0_0)=true:=decide_eq_true c4;clear c4
  by_cases c5:a0_0≤a0_1
  ·
   (rw[if_pos c5] at H);have c5b0:decide (a0_0≤a0_1)=true:=decide_eq_true c5;clear c5
   by_cases c6:a0_1≤2000
   (· (rw[if_pos c6] at H);have c6b0:decide (a0_1≤2000)=true:=decide_eq_true c6;clear c6;obtain rfl:=Option.some.inj H;go_enter Tryd.func114,Tryd.ntmps114;(go_wp2_with (first|((with_reducible refine gate_dst (N:=3) rfl ?_);refine box_event ?hg (N:=3) ?hd (cs:=#[.int .i64 a0_0, .int .i64 a0_1]) (t:=45) ?hr ?_;(case hd=>rfl);(case hg=>rfl);(case hr=>first|(go_simp;done)|(go_simp;rfl));intro gb101 hg w7 hbox hb;have BK101:=Aside0.mk (hbox);have GW101:=Aside0.mk ((by rw[hg];exact(bsz bel_):w.heap.size≤gb101));have GE101:=Aside0.mk ((by rw[hg];exact(bsz bel_):w.heap.size≤gb101));replace HB:=Aside0.mk (bst bel_ hb);clear hb hbox hg)|((with_reducible refine gate_dst (N:=4) rfl ?_);refine box_event ?hg (N:=4) ?hd (cs:=#[.int .i64 a1_0, .int .i64 a1_1]) (t:=45) ?hr ?_;(case hd=>rfl);(case hg=>rfl);(case hr=>first|(go_simp;done)|(go_simp;rfl));intro gb102 hg w8 hbox hb;have BK102:=Aside0.mk (hbox);have GW102:=Aside0.mk ((by rw[hg];exact(bsz (bs1_ GE101.out)):w.heap.size≤gb102));have GE102:=Aside0.mk ((by rw[hg];exact(bsz (bs1_ GE101.out)):w.heap.size≤gb102));replace HB:=Aside0.mk (bst (bs1_ GE101.out) hb);have NB101_102:=Aside0.mk ((by rw[hg];exact Nat.ne_of_lt (blk_lt (g:=gb101) (o := .cells #[.int .i64 a0_0, .int .i64 a0_1] 45 (0,0)) (pK_ BK101.out)):gb101≠gb102));have NB102_101:=Aside0.mk ((by rw[hg];exact Nat.ne_of_gt (blk_lt (g:=gb101) (o := .cells #[.int .i64 a0_0, .int .i64 a0_1] 45 (0,0)) (pK_ BK101.out)):gb102≠gb101));replace BK101:=Aside0.mk (blk_below (g:=gb101) (o := .cells #[.int .i64 a0_0, .int .i64 a0_1] 45 (0,0)) (pK_ BK101.out) hb);clear hb hbox hg;have hnb9:=NB101_102.out;have hnc9:=NB102_101.out;have hcz10_0:w8.cell? ⟨gb101,0,none⟩=some (.int .i64 a0_0):=(bcl BK101.out 0).trans rfl;have hcz10_1:w8.cell? ⟨gb101,1,none⟩=some (.int .i64 a0_1):=(bcl BK101.out 1).trans rfl;have hfz10_0:=bfz BK101.out 0;have hfz10_1:=bfz BK101.out 1;have hcz11_0:w8.cell? ⟨gb102,0,none⟩=some (.int .i64 a1_0):=(bcl BK102.out 0).trans rfl;have hcz11_1:w8.cell? ⟨gb102,1,none⟩=some (.int .i64 a1_1):=(bcl BK102.out 1).trans rfl;have hfz11_0:=bfz BK102.out 0;have hfz11_1:=bfz BK102.out 1)));go_ret;exact⟨by first|rfl|(simp[errW_none,errW_some] <;> rfl)|(simp[*,errW_none,errW_some] <;> rfl),by repeat(first|(with_reducible first|exact HB.out|apply below_alloc|apply pw_below_drewN|apply below_drew1|refine below_set ?_ GE101.out|refine below_set ?_ GE102.out)|exact HB.out)⟩)
   (· (rw[if_neg c6] at H);have c6b0:decide (a0_1≤2000)=false:=decide_eq_false c6;clear c6;obtain rfl:=Option.some.inj H;go_enter Tryd.func114,Tryd.ntmps114;(go_wp2_with (first|((with_reducible refine gate_dst (N:=3) rfl ?_);refine box_event ?hg (N:=3) ?hd (cs:=#[.int .i64 a0_0, .int .i64 a0_1]) (t:=45) ?hr ?_;(case hd=>rfl);(case hg=>rfl);(case hr=>first|(go_simp;done)|(go_simp;rfl));intro gb101 hg w12 hbox hb;have BK101:=Aside0.mk (hbox);have GW101:=Aside0.mk ((by rw[hg];exact(bsz bel_):w.heap.size≤gb101));have GE101:=Aside0.mk ((by rw[hg];exact(bsz bel_):w.heap.size≤gb101));replace HB:=Aside0.mk (bst bel_ hb);clear hb hbox hg)|((with_reducible refine gate_dst (N:=4) rfl ?_);refine box_event ?hg (N:=4) ?hd (cs:=#[.int .i64 a1_0, .int .i64 a1_1]) (t:=45) ?hr ?_;(case hd=>rfl);(case hg=>rfl);(case hr=>first|(go_simp;done)|(go_simp;rfl));intro gb102 hg w13 hbox hb;have BK102:=Aside0.mk (hbox);have GW102:=Aside0.mk ((by rw[hg];exact(bsz (bs1_ GE101.out)):w.heap.size≤gb102));have GE102:=Aside0.mk ((by rw[hg];exact(bsz (bs1_ GE101.out)):w.heap.size≤gb102));replace HB:=Aside0.mk (bst (bs1_ GE101.out) hb);have NB101_102:=Aside0.mk ((by rw[hg];exact Nat.ne_of_lt (blk_lt (g:=gb101) (o := .cells #[.int .i64 a0_0, .int .i64 a0_1] 45 (0,0)) (pK_ BK101.out)):gb101≠gb102));have NB102_101:=Aside0.mk ((by rw[hg];exact Nat.ne_of_gt (blk_lt (g:=gb101) (o := .cells #[.int .i64 a0_0, .int .i64 a0_1] 45 (0,0)) (pK_ BK101.out)):gb102≠gb101));replace BK101:=Aside0.mk (blk_below (g:=gb101) (o := .cells #[.int .i64 a0_0, .int .i64 a0_1] 45 (0,0)) (pK_ BK101.out) hb);clear hb hbox hg;have hnb14:=NB101_102.out;have hnc14:=NB102_101.out;have hcz15_0:w13.cell? ⟨gb101,0,none⟩=some (.int .i64 a0_0):=(bcl BK101.out 0).trans rfl;have hcz15_1:w13.cell? ⟨gb101,1,none⟩=some (.int .i64 a0_1):=(bcl BK101.out 1).trans rfl;have hfz15_0:=bfz BK101.out 0;have hfz15_1:=bfz BK101.out 1;have hcz16_0:w13.cell? ⟨gb102,0,none⟩=some (.int .i64 a1_0):=(bcl BK102.out 0).trans rfl;have hcz16_1:w13.cell? ⟨gb102,1,none⟩=some (.int .i64 a1_1):=(bcl BK102.out 1).trans rfl;have hfz16_0:=bfz BK102.out 0;have hfz16_1:=bfz BK102.out 1)));go_ret;exact⟨by first|rfl|(simp[errW_none,errW_some] <;> rfl)|(simp[*,errW_none,errW_some] <;> rfl),by repeat(first|(with_reducible first|exact HB.out|apply below_alloc|apply pw_below_drewN|apply below_drew1|refine below_set ?_ GE101.out|refine below_set ?_ GE102.out)|exact HB.out)⟩)
  (· (rw[if_neg c5] at H);have c5b0:decide (a0_0≤a0_1)=false:=decide_eq_false c5;clear c5;obtain rfl:=Option.some.inj H;go_enter Tryd.func114,Tryd.ntmps114;(go_wp2_with (first|((with_reducible refine gate_dst (N:=3) rfl ?_);refine box_event ?hg (N:=3) ?hd (cs:=#[.int .i64 a0_0, .int .i64 a0_1]) (t:=45) ?hr ?_;(case hd=>rfl);(case hg=>rfl);(case hr=>first|(go_simp;done)|(go_simp;rfl));intro gb101 hg w17 hbox hb;have BK101:=Aside0.mk (hbox);have GW101:=Aside0.mk ((by rw[hg];exact(bsz bel_):w.heap.size≤gb101));have GE101:=Aside0.mk ((by rw[hg];exact(bsz bel_):w.heap.size≤gb101));replace HB:=Aside0.mk (bst bel_ hb);clear hb hbox hg)|((with_reducible refine gate_dst (N:=4) rfl ?_);refine box_event ?hg (N:=4) ?hd (cs:=#[.int .i64 a1_0, .int .i64 a1_1]) (t:=45) ?hr ?_;(case hd=>rfl);(case hg=>rfl);(case hr=>first|(go_simp;done)|(go_simp;rfl));intro gb102 hg w18 hbox hb;have BK102:=Aside0.mk (hbox);have GW102:=Aside0.mk ((by rw[hg];exact(bsz (bs1_ GE101.out)):w.heap.size≤gb102));have GE102:=Aside0.mk ((by rw[hg];exact(bsz (bs1_ GE101.out)):w.heap.size≤gb102));replace HB:=Aside0.mk (bst (bs1_ GE101.out) hb);have NB101_102:=Aside0.mk ((by rw[hg];exact Nat.ne_of_lt (blk_lt (g:=gb101) (o := .cells #[.int .i64 a0_0, .int .i64 a0_1] 45 (0,0)) (pK_ BK101.out)):gb101≠gb102));have NB102_101:=Aside0.mk ((by rw[hg];exact Nat.ne_of_gt (blk_lt (g:=gb101) (o := .cells #[.int .i64 a0_0, .int .i64 a0_1] 45 (0,0)) (pK_ BK101.out)):gb102≠gb101));replace BK101:=Aside0.mk (blk_below (g:=gb101) (o := .cells #[.int .i64 a0_0, .int .i64 a0_1] 45 (0,0)) (pK_ BK101.out) hb);clear hb hbox hg;have hnb19:=NB101_102.out;have hnc19:=NB102_101.out;have hcz20_0:w18.cell? ⟨gb101,0,none⟩=some (.int .i64 a0_0):=(bcl BK101.out 0).trans rfl;have hcz20_1:w18.cell? ⟨gb101,1,none⟩=some (.int .i64 a0_1):=(bcl BK101.out 1).trans rfl;have hfz20_0:=bfz BK101.out 0;have hfz20_1:=bfz BK101.out 1;have hcz21_0:w18.cell? ⟨gb102,0,none⟩=some (.int .i64 a1_0):=(bcl BK102.out 0).trans rfl;have hcz21_1:w18.cell? ⟨gb102,1,none⟩=some (.int .i64 a1_1):=(bcl BK102.out 1).trans rfl;have hfz21_0:=bfz BK102.out 0;have hfz21_1:=bfz BK102.out 1)));go_ret;exact⟨by first|rfl|(simp[errW_none,errW_some] <;> rfl)|(simp[*,errW_none,errW_some] <;> rfl),by repeat(first|(with_reducible first|exact HB.out|apply below_alloc|apply pw_below_drewN|apply below_drew1|refine below_set ?_ GE101.out|refine below_set ?_ GE102.out)|exact HB.out)⟩)
 (· (rw[if_neg c4] at H);have c4b0:decide (a1_1≤a0_0)=false:=decide_eq_false c4;clear c4;obtain rfl:=Option.some.inj H;go_enter Tryd.func114,Tryd.ntmps114;(go_wp2_with (first|((with_reducible refine gate_dst (N:=3) rfl ?_);refine box_event ?hg (N:=3) ?hd (cs:=#[.int .i64 a0_0, .int .i64 a0_1]) (t:=45) ?hr ?_;(case hd=>rfl);(case hg=>rfl);(case hr=>first|(go_simp;done)|(go_simp;rfl));intro gb101 hg w22 hbox hb;have BK101:=Aside0.mk (hbox);have GW101:=Aside0.mk ((by rw[hg];exact(bsz bel_):w.heap.size≤gb101));have GE101:=Aside0.mk ((by rw[hg];exact(bsz bel_):w.heap.size≤gb101));replace HB:=Aside0.mk (bst bel_ hb);clear hb hbox hg)|((with_reducible refine gate_dst (N:=4) rfl ?_);refine box_event ?hg (N:=4) ?hd (cs:=#[.int .i64 a1_0, .int .i64 a1_1]) (t:=45) ?hr ?_;(case hd=>rfl);(case hg=>rfl);(case hr=>first|(go_simp;done)|(go_simp;rfl));intro gb102 hg w23 hbox hb;have BK102:=Aside0.mk (hbox);have GW102:=Aside0.mk ((by rw[hg];exact(bsz (bs1_ GE101.out)):w.heap.size≤gb102));have GE102:=Aside0.mk ((by rw[hg];exact(bsz (bs1_ GE101.out)):w.heap.size≤gb102));replace HB:=Aside0.mk (bst (bs1_ GE101.out) hb);have NB101_102:=Aside0.mk ((by rw[hg];exact Nat.ne_of_lt (blk_lt (g:=gb101) (o := .cells #[.int .i64 a0_0, .int .i64 a0_1] 45 (0,0)) (pK_ BK101.out)):gb101≠gb102));have NB102_101:=Aside0.mk ((by rw[hg];exact Nat.ne_of_gt (blk_lt (g:=gb101) (o := .cells #[.int .i64 a0_0, .int .i64 a0_1] 45 (0,0)) (pK_ BK101.out)):gb102≠gb101));replace BK101:=Aside0.mk (blk_below (g:=gb101) (o := .cells #[.int .i64 a0_0, .int .i64 a0_1] 45 (0,0)) (pK_ BK101.out) hb);clear hb hbox hg;have hnb24:=NB101_102.out;have hnc24:=NB102_101.out;have hcz25_0:w23.cell? ⟨gb101,0,none⟩=some (.int .i64 a0_0):=(bcl BK101.out 0).trans rfl;have hcz25_1:w23.cell? ⟨gb101,1,none⟩=some (.int .i64 a0_1):=(bcl BK101.out 1).trans rfl;have hfz25_0:=bfz BK101.out 0;have hfz25_1:=bfz BK101.out 1;have hcz26_0:w23.cell? ⟨gb102,0,none⟩=some (.int .i64 a1_0):=(bcl BK102.out 0).trans rfl;have hcz26_1:w23.cell? ⟨gb102,1,none⟩=some (.int .i64 a1_1):=(bcl BK102.out 1).trans rfl;have hfz26_0:=bfz BK102.out 0;have hfz26_1:=bfz BK102.out 1)));go_ret;exact⟨by first|rfl|(simp[errW_none,errW_some] <;> rfl)|(simp[*,errW_none,errW_some] <;> rfl),by repeat(first|(with_reducible first|exact HB.out|apply below_alloc|apply pw_below_drewN|apply below_drew1|refine below_set ?_ GE101.out|refine below_set ?_ GE102.out)|exact HB.out)⟩)
def patch_counts.l0:Nat→List Int→Int→Int→List (S45)→Int→Int→List (S57)→Option (List Int)
  | 0,_,_,_,_,_,_,_=>none
  | k+1,x3,x7,x8,x104000,x104001,x104002,x104003=>if x8 < x7 then ((table_Column.f x104003 x8).bind fun t104=>(if x3.length < 17592186044416 then (patch_counts.l0 k (x3 ++ [(t104.length:Int)]) x7 (wrap64 (x8+1)) x104000 x104001 x104002 x104003) else (none))) else ((table_Result.f x104003).bind fun t110=>(if x3.length < 17592186044416 then (some (x3 ++ [(t110.length:Int)])) else (none)))
def patch_counts.f (k:Nat) (l0_0:List (S45)) (a0_1:Int) (a0_2:Int) (l0_3:List (S57)):Option (List Int):=patch_counts.l0 k ([]:List Int) (l0_0.length:Int) 0 l0_0 a0_1 a0_2 l0_3
theorem patch_counts.calls (k:Nat) (A0_0:Option Addr) (c0_0:Nat) (l0_0:List (S45)) (a0_1:Int) (a0_2:Int) (A0_3:Option Addr) (c0_3:Nat) (l0_3:List (S57)) (r:List Int) (w:World) (hr0_0:Kd.C k45 w A0_0 l0_0.length l0_0) (hc0_0:l0_0.length≤c0_0) (hr0_3:Kd.C k57 w A0_3 l0_3.length l0_3) (hc0_3:l0_3.length≤c0_3) (h:patch_counts.f k l0_0 a0_1 a0_2 l0_3=some r) :
    Calls Tryd.prog 113 #[.agg #[.slice A0_0 l0_0.length c0_0, .int .i64 a0_1, .int .i64 a0_2, .slice A0_3 l0_3.length c0_3]] w fun e w' => ∃ v0_:Value,e = .returned (v0_)∧Kd.R (Kd.int .i64) 3 w' w.heap.size (fun _=>True) v0_ r∧Below w.heap.size w w':=by
 have hu48:=Tryd.underlying48;have HR0_0:=Aside0.mk hr0_0;have HC0_0:=Aside0.mk hc0_0;clear hr0_0 hc0_0;have HR0_3:=Aside0.mk hr0_3;have HC0_3:=Aside0.mk hc0_3;clear hr0_3 hc0_3;have HB:=Aside0.mk (Below.refl w.heap.size w);have H:=h;(rw[patch_counts.f] at H);clear h;have H':=Aside0.mk H;clear H;go_enter Tryd.func113,Tryd.ntmps113;(go_wp2_with (first|((with_reducible refine gate_dst (N:=1) rfl ?_);refine box_event ?hg (N:=1) ?hd (cs:=#[.slice A0_0 l0_0.length c0_0, .int .i64 a0_1, .int .i64 a0_2, .slice A0_3 l0_3.length c0_3]) (t:=48) ?hr ?_;(case hd=>rfl);(case hg=>rfl);(case hr=>first|(go_simp;done)|(go_simp;rfl));intro gb103 hg w2 hbox hb;have BK103:=Aside0.mk (hbox);have GW103:=Aside0.mk ((by rw[hg];exact(bsz bel_):w.heap.size≤gb103));have GE103:=Aside0.mk ((by rw[hg];exact(bsz bel_):w.heap.size≤gb103));replace HB:=Aside0.mk (bst bel_ hb);clear hb hbox hg;have hcz3_0:w2.cell? ⟨gb103,0,none⟩=some (.slice A0_0 l0_0.length c0_0):=(bcl BK103.out 0).trans rfl;have hcz3_1:w2.cell? ⟨gb103,1,none⟩=some (.int .i64 a0_1):=(bcl BK103.out 1).trans rfl;have hcz3_2:w2.cell? ⟨gb103,2,none⟩=some (.int .i64 a0_2):=(bcl BK103.out 2).trans rfl;have hcz3_3:w2.cell? ⟨gb103,3,none⟩=some (.slice A0_3 l0_3.length c0_3):=(bcl BK103.out 3).trans rfl;have hfz3_0:=bfz BK103.out 0;have hfz3_1:=bfz BK103.out 1;have hfz3_2:=bfz BK103.out 2;have hfz3_3:=bfz BK103.out 3)))
 go_loopg [3,8] k (fun kq v3 v8 w' => ∃ (x3_1:List Int) (x8_1:Int),v8 = .int .i64 x8_1∧Aside0 (patch_counts.l0 kq x3_1 (l0_0.length:Int) x8_1 l0_0 a0_1 a0_2 l0_3=some r)∧Aside0 (kq≤k)∧Aside0 (Kd.R (Kd.int .i64) 3 w' w.heap.size (fun _=>True) v3 x3_1)∧Aside0 (w'.heap[gb103]? = some (.cells #[(.slice A0_0 l0_0.length c0_0), .int .i64 a0_1, .int .i64 a0_2,(.slice A0_3 l0_3.length c0_3)] 48 (0,0)))∧Aside0 (Below w.heap.size w w'))
 (case atStart=>exact⟨(([]:List Int)),(0),rs_,H',⟨Nat.le_refl _⟩,⟨by first|exact Kd.R_nil _ _ _ _ _|exact Kd.N_nil _ _ _ _ _|exact Kd.V_nil _ _ _ _ _|exact Kd.Q_nil _ _ _ _ _|exact Kd.S_nil _ _ _ _ _⟩,⟨pK_ BK103.out⟩,⟨bs1_ GE103.out⟩⟩)
 case round =>
  clear H';(try clear c1);(try clear p2);(try clear hcz3_0);(try clear hcz3_1);(try clear hcz3_2);(try clear hcz3_3);(try clear hfz3_0);(try clear hfz3_1);(try clear hfz3_2);(try clear hfz3_3);obtain⟨x3_1,x8_1,rfl,HA,HK1,HO_3,BK103,HB⟩:=hrel
  cases gk with
  | zero=>exact absurd HA.out (by simp[patch_counts.l0])
  | succ k1 =>
   have H:=HA.out;clear HA;(simp only[patch_counts.l0] at H)
   by_cases c4:x8_1 < (l0_0.length:Int)
   ·
    (rw[if_pos c4] at H);have c4b0:decide (x8_1 < (l0_0.length:Int))=true:=decide_eq_true c4;clear c4;replace H:=Option.bind_eq_some_iff.mp H;obtain⟨t104,A50,H⟩:=H;(try dsimp only at H);have A5:=Aside0.mk A50;clear A50
    by_cases c6:x3_1.length < 17592186044416
    ·
     (rw[if_pos c6] at H);have LMc6:=Aside0.mk c6;clear c6;obtain⟨y107,hy107⟩ : ∃ y_:List Int,y_=(x3_1 ++ [(t104.length:Int)]):=⟨_,rfl⟩;((try rw[Option.bind_some] at H);rw[← hy107] at H);have Ny107:=Aside0.mk hy107;clear hy107;have H':=Aside0.mk H;clear H;have hcz7_0:wr.cell? ⟨gb103,0,none⟩=some (.slice A0_0 l0_0.length c0_0):=(bcl BK103.out 0).trans rfl;have hcz7_1:wr.cell? ⟨gb103,1,none⟩=some (.int .i64 a0_1):=(bcl BK103.out 1).trans rfl;have hcz7_2:wr.cell? ⟨gb103,2,none⟩=some (.int .i64 a0_2):=(bcl BK103.out 2).trans rfl;have hcz7_3:wr.cell? ⟨gb103,3,none⟩=some (.slice A0_3 l0_3.length c0_3):=(bcl BK103.out 3).trans rfl;have hfz7_0:=bfz BK103.out 0;have hfz7_1:=bfz BK103.out 1;have hfz7_2:=bfz BK103.out 2;have hfz7_3:=bfz BK103.out 3;(go_wp2_with (first|((with_reducible refine gate_callee (f:=39) rfl ?_);refine goesL_ (some 15) rfl rfl Tryd.func39 (by kernel_rfl) rfl #[.slice A0_3 l0_3.length c0_3, .int .i64 x8_1] rfl am_ ?_;(with_reducible refine(table_Column.calls _ _ l0_3 x8_1 t104 _ ?side1 ?side2 A5.out).mono ?_);(case side1=>repeat(first|exact(Kd.C_below HR0_3.out HB.out)|(with_reducible refine Kd.C_alloc ?_ _)|(with_reducible refine Kd.C_drewN ?_ _)|(with_reducible refine Kd.C_drew ?_)));(case side2=>exact HC0_3.out);rintro e w8 ⟨v105,rfl,ho0,hb⟩;refine⟨_,rfl,?_⟩;replace HO_3:=Aside0.mk (Kd.R_below (pR_ HO_3.out) hb);have HO106:=Aside0.mk (Kd.R_lower ho0 (bsz (bs1_ GE103.out)));replace BK103:=Aside0.mk (blk_below (g:=gb103) (o := .cells #[.slice A0_0 l0_0.length c0_0, .int .i64 a0_1, .int .i64 a0_2, .slice A0_3 l0_3.length c0_3] 48 (0,0)) (pK_ BK103.out) hb);replace HB:=Aside0.mk (bst (bs1_ GE103.out) hb);(try clear hb);(try clear hb2);(try clear hk);(try clear hi);(try clear ho0);obtain⟨Ao9,co9,eo9⟩:=Kd.R_slice HO106.out;subst eo9)|((with_reducible refine gate_builtin (b := .append) (xs:=#[.tmp 11, .tmp 17]) rfl ?_);at_builtin;refine Kd.R_append (Kd.int .i64) (w0:=w) w.heap.size rfl (.tmp 11) (.tmp 17) 76 3 (.int .i64 0) 8 rfl Tryd.underlying76 info3 rfl (by decide) (by omega) u3 x3_1 (t104.length:Int) [.int .i64 (t104.length:Int)] (fun _=>True) (fun _=>False) rfl rfl ?aP (fun _ hk=>hk.elim) ?aF ?aO ?aB ?aS ?aL ?_;(case aP=>exact rfl);(case aB=>exact(bs1_ GE103.out));(case aF=>exact(fun _ _=>trivial));(case aO=>exact(pR_ HO_3.out));(case aS=>exact(bsz (bs1_ GE103.out)));(case aL=>have:=LMc6.out;omega);intro v108 w10 ho hb hg hat;rw[← Ny107.out] at ho;replace BK103:=Aside0.mk (blk_grown (g:=gb103) (o := .cells #[.slice A0_0 l0_0.length c0_0, .int .i64 a0_1, .int .i64 a0_2, .slice A0_3 l0_3.length c0_3] 48 (0,0)) (pK_ BK103.out) hg (Kd.R_ne HO_3.out BK103.out (by decide)));replace HO106:=Aside0.mk (Kd.R_over' (pR_ HO106.out) (Kd.R_typed (pR_ HO_3.out)) (by decide) hg);replace HB:=Aside0.mk (hb);have HO109:=Aside0.mk (ho);clear HO_3;clear ho hb hg hat)))
     go_roundg k1
     (case measure=>have:=HK1.out;omega);(case rel=>exact⟨(y107),(wrap64 (x8_1+1)),rs_,H',⟨by have:=HK1.out;omega⟩,⟨pR_ HO109.out⟩,⟨pK_ BK103.out⟩,⟨bs1_ GE103.out⟩⟩)
    (· exact nx_ c6 H)
   ·
    (rw[if_neg c4] at H);have c4b0:decide (x8_1 < (l0_0.length:Int))=false:=decide_eq_false c4;clear c4;replace H:=Option.bind_eq_some_iff.mp H;obtain⟨t110,A110,H⟩:=H;(try dsimp only at H);have A11:=Aside0.mk A110;clear A110
    by_cases c12:x3_1.length < 17592186044416
    (· (rw[if_pos c12] at H);have LMc12:=Aside0.mk c12;clear c12;obtain⟨y113,hy113⟩ : ∃ y_:List Int,y_=(x3_1 ++ [(t110.length:Int)]):=⟨_,rfl⟩;((try rw[Option.bind_some] at H);rw[← hy113] at H);have Ny113:=Aside0.mk hy113;clear hy113;obtain rfl:=Option.some.inj H;have hcz13_0:wr.cell? ⟨gb103,0,none⟩=some (.slice A0_0 l0_0.length c0_0):=(bcl BK103.out 0).trans rfl;have hcz13_1:wr.cell? ⟨gb103,1,none⟩=some (.int .i64 a0_1):=(bcl BK103.out 1).trans rfl;have hcz13_2:wr.cell? ⟨gb103,2,none⟩=some (.int .i64 a0_2):=(bcl BK103.out 2).trans rfl;have hcz13_3:wr.cell? ⟨gb103,3,none⟩=some (.slice A0_3 l0_3.length c0_3):=(bcl BK103.out 3).trans rfl;have hfz13_0:=bfz BK103.out 0;have hfz13_1:=bfz BK103.out 1;have hfz13_2:=bfz BK103.out 2;have hfz13_3:=bfz BK103.out 3;(go_wp2_with (first|((with_reducible refine gate_callee (f:=38) rfl ?_);refine goesL_ (some 23) rfl rfl Tryd.func38 (by kernel_rfl) rfl #[.slice A0_3 l0_3.length c0_3] rfl am_ ?_;(with_reducible refine(table_Result.calls _ _ l0_3 t110 _ ?side1 ?side2 A11.out).mono ?_);(case side1=>repeat(first|exact(Kd.C_below HR0_3.out HB.out)|(with_reducible refine Kd.C_alloc ?_ _)|(with_reducible refine Kd.C_drewN ?_ _)|(with_reducible refine Kd.C_drew ?_)));(case side2=>exact HC0_3.out);rintro e w14 ⟨v111,rfl,ho0,hb⟩;refine⟨_,rfl,?_⟩;replace HO_3:=Aside0.mk (Kd.R_below (pR_ HO_3.out) hb);have HO112:=Aside0.mk (Kd.R_lower ho0 (bsz (bs1_ GE103.out)));replace BK103:=Aside0.mk (blk_below (g:=gb103) (o := .cells #[.slice A0_0 l0_0.length c0_0, .int .i64 a0_1, .int .i64 a0_2, .slice A0_3 l0_3.length c0_3] 48 (0,0)) (pK_ BK103.out) hb);replace HB:=Aside0.mk (bst (bs1_ GE103.out) hb);(try clear hb);(try clear hb2);(try clear hk);(try clear hi);(try clear ho0);obtain⟨Ao15,co15,eo15⟩:=Kd.R_slice HO112.out;subst eo15)|((with_reducible refine gate_builtin (b := .append) (xs:=#[.tmp 20, .tmp 25]) rfl ?_);at_builtin;refine Kd.R_append (Kd.int .i64) (w0:=w) w.heap.size rfl (.tmp 20) (.tmp 25) 76 3 (.int .i64 0) 8 rfl Tryd.underlying76 info3 rfl (by decide) (by omega) u3 x3_1 (t110.length:Int) [.int .i64 (t110.length:Int)] (fun _=>True) (fun _=>False) rfl rfl ?aP (fun _ hk=>hk.elim) ?aF ?aO ?aB ?aS ?aL ?_;(case aP=>exact rfl);(case aB=>exact(bs1_ GE103.out));(case aF=>exact(fun _ _=>trivial));(case aO=>exact(pR_ HO_3.out));(case aS=>exact(bsz (bs1_ GE103.out)));(case aL=>have:=LMc12.out;omega);intro v114 w16 ho hb hg hat;rw[← Ny113.out] at ho;replace BK103:=Aside0.mk (blk_grown (g:=gb103) (o := .cells #[.slice A0_0 l0_0.length c0_0, .int .i64 a0_1, .int .i64 a0_2, .slice A0_3 l0_3.length c0_3] 48 (0,0)) (pK_ BK103.out) hg (Kd.R_ne HO_3.out BK103.out (by decide)));replace HO112:=Aside0.mk (Kd.R_over' (pR_ HO112.out) (Kd.R_typed (pR_ HO_3.out)) (by decide) hg);replace HB:=Aside0.mk (hb);have HO115:=Aside0.mk (ho);clear HO_3;clear ho hb hg hat)));go_ret;exact⟨_,ew_,by(with_reducible repeat(first|apply Kd.R_alloc|apply Kd.R_drewN|apply Kd.R_drew));exact HO115.out,by repeat(first|(with_reducible first|exact HB.out|apply below_alloc|apply pw_below_drewN|apply below_drew1|refine below_set ?_ GE103.out)|exact HB.out)⟩);(· exact nx_ c12 H)
end Go.Proofs.YthcnfflhejogfaaDoor.X
namespace Go.Proofs.YthcnfflhejogfaaDoor.X
open Go.RowKit YthcnfflhejogfaaDoorW.PrintWords YthcnfflhejogfaaDoorW.PrintLast YthcnfflhejogfaaDoorW.PrintMore
def lineClosed (s:ByteArray):Bool:=decide (0≤Lib.indexByte s.data.toList 10∧Lib.indexByte s.data.toList 10=(s.size:Int) - 1)
def lineOpen (s:ByteArray):Bool:=decide (Lib.indexByte s.data.toList 10 < 0∧0 < s.size)
def mayL:List ByteArray→Bool
  | []=>true
  | s :: t=>(lineClosed s || (lineOpen s && t.isEmpty)) && mayL t
theorem may_l0 (l:List ByteArray) (hl:l.length≤1000000000000) (hz : ∀ s ∈ l,s.size≤1000000000000000) : ∀ (r i:Nat),i+r=l.length→Gives (fun k=>lines_May.l0 k l l (l.length:Int) (i:Int)) (mayL (l.drop i))
 | 0,i,hi=>Gives.of fun k=>by
  show lines_May.l0 (k+1) l l (l.length:Int) (i:Int)=_;rw[lines_May.l0,if_neg (by omega),List.drop_of_length_le (by omega)];rfl
 | r+1,i,hi=>by
  (have hil:i < l.length:=by omega);have hzi:=hz l[i] (List.getElem_mem _);have ih:=may_l0 l hl hz r (i+1) (by omega)
  have e : ∀ k,lines_May.l0 (k+1) l l (l.length:Int) (i:Int)=if Lib.indexByte l[i].data.toList 10 < 0 then (if (l[i].size:Int) > 0 then (if (i:Int)=(l.length:Int) - 1 then lines_May.l0 k l l (l.length:Int) ((i+1:Nat):Int) else some false) else some false) else (if Lib.indexByte l[i].data.toList 10=(l[i].size:Int) - 1 then lines_May.l0 k l l (l.length:Int) ((i+1:Nat):Int) else some false):=fun k=>by
   rw[lines_May.l0,if_pos (by omega),if_pos (by omega),if_pos (by omega),rdOfN hil,gw1 (by omega),gw (by omega) (by omega),gw (by omega) (by omega)];rfl
  have hle:((l.drop (i+1)).isEmpty=true)↔i+1=l.length:=by
   (rw[List.isEmpty_iff,List.drop_eq_nil_iff];omega)
  rw[dropCons hil,mayL]
  by_cases h1:Lib.indexByte l[i].data.toList 10 < 0
  ·
   have hc:lineClosed l[i]=false:=decide_eq_false (by omega);rw[hc,Bool.false_or]
   by_cases h2:0 < l[i].size
   ·
    have ho:lineOpen l[i]=true:=decide_eq_true ⟨h1,h2⟩;rw[ho,Bool.true_and]
    by_cases h3:i+1=l.length
    ·
     rw[hle.2 h3,Bool.true_and]
     exact ih.step fun k=>by
      show lines_May.l0 (k+1) l l (l.length:Int) (i:Int)=_;rw[e k,if_pos h1,if_pos (by omega),if_pos (by omega)]
    ·
     have:(l.drop (i+1)).isEmpty=false:=by
      cases hh:(l.drop (i+1)).isEmpty;(· rfl);(· exact absurd (hle.1 hh) h3)
     rw[this,Bool.false_and]
     exact Gives.of fun k=>by
      show lines_May.l0 (k+1) l l (l.length:Int) (i:Int)=_;rw[e k,if_pos h1,if_pos (by omega),if_neg (by omega)]
   ·
    have ho:lineOpen l[i]=false:=decide_eq_false (by omega);rw[ho,Bool.false_and,Bool.false_and]
    exact Gives.of fun k=>by
     show lines_May.l0 (k+1) l l (l.length:Int) (i:Int)=_;rw[e k,if_pos h1,if_neg (by omega)]
  ·
   have ho:lineOpen l[i]=false:=decide_eq_false (by omega);rw[ho,Bool.false_and,Bool.or_false]
   by_cases h2:Lib.indexByte l[i].data.toList 10=(l[i].size:Int) - 1
   ·
    have hc:lineClosed l[i]=true:=decide_eq_true ⟨by omega,h2⟩;rw[hc,Bool.true_and]
    exact ih.step fun k=>by
     show lines_May.l0 (k+1) l l (l.length:Int) (i:Int)=_;rw[e k,if_neg h1,if_pos h2]
   ·
    have hc:lineClosed l[i]=false:=decide_eq_false (by omega);rw[hc,Bool.false_and]
    exact Gives.of fun k=>by
     show lines_May.l0 (k+1) l l (l.length:Int) (i:Int)=_;rw[e k,if_neg h1,if_neg h2]
theorem may_gives (l:List ByteArray) (hl:l.length≤1000000000000) (hz : ∀ s ∈ l,s.size≤1000000000000000):Gives (fun k=>lines_May.f k l) (mayL l) :=
  (may_l0 l hl hz l.length 0 (by omega)).same fun k=>rfl
theorem byte10 (c:UInt8):((c.toNat:Int)=10)↔c=10:=by
 constructor;(· intro h;(have:c.toNat=10:=by omega);exact UInt8.toNat_inj.1 this);(· (rintro rfl;rfl))
theorem index10 (u:List UInt8):(¬ (10:UInt8) ∈ u∧Lib.indexByte u 10 = -1)∨(∃ a b,u=a ++ 10 :: b ∧ ¬ (10:UInt8) ∈ a∧Lib.indexByte u 10=(a.length:Int)):=by
 induction u with
 | nil=>left;simp[Lib.indexByte]
 | cons x xs ih =>
  simp only[Lib.indexByte]
  by_cases e:x=10
  (· (right;exact⟨[],xs,by rw[e];rfl,by simp,by simp[e]⟩))
  ·
   (have e':(x == 10)=false:=by simp[e]);(have e2 : ¬ (10:UInt8)=x:=fun h=>e h.symm);rw[e']
   rcases ih with ⟨h1,h2⟩|⟨a,b,h0,h1,h2⟩
   (· (left;simp[h1,h2,e2]));(· right;refine⟨x :: a,b,by rw[h0];rfl,by simp[e2,h1],?_⟩;rw[if_neg (by decide),if_neg (by simp;omega),h2];simp)
theorem closed_eq (s:ByteArray):lineClosed s=(decide (s.data.toList.count 10=1) && decide (s.data.toList.getLast? = some 10)):=by
 have hs:=sizeLen s;rw[lineClosed,← Bool.decide_and,decide_eq_decide]
 rcases index10 s.data.toList with ⟨h1,h2⟩|⟨a,b,h0,h1,h2⟩
 (· (rw[h2,List.count_eq_zero.2 h1];omega))
 ·
  rw[h2,hs,h0,List.count_append,List.count_eq_zero.2 h1,List.count_cons_self,List.length_append,List.length_cons]
  cases b with
  | nil=>simp
  | cons y t =>
   rw[List.getLast?_append,List.getLast?_cons_cons];constructor;(· (intro ⟨_,h⟩;rw[List.length_cons] at h;omega))
   ·
    rintro⟨h3,h4⟩
    have h5:(y :: t).getLast? = some 10:=by
     cases hg:(y :: t).getLast? with
     | none=>simp at hg
     | some z=>rw[hg] at h4;exact h4
    have:=List.count_pos_iff.2 (List.mem_of_getLast? h5);omega
theorem open_eq (s:ByteArray):lineOpen s=(decide (0 < s.size) && decide (s.data.toList.count 10=0)):=by
 rw[lineOpen,← Bool.decide_and,decide_eq_decide,List.count_eq_zero]
 rcases index10 s.data.toList with ⟨h1,h2⟩|⟨a,b,h0,h1,h2⟩
 (· (rw[h2];simp[h1]))
 ·
  rw[h2];(have:(10:UInt8) ∈ s.data.toList:=by rw[h0];simp);constructor;(· (rintro⟨h,_⟩;omega));(· (rintro⟨_,h⟩;exact absurd this h))
theorem ref_feeds_l0 (s:ByteArray) (hs:s.size≤1000000000) : ∀ (r i k:Nat) (n:Nat),i+r=s.size→n≤i→r+1≤k→sennitref01_feeds.l0 k s (n:Int) (i:Int)=some (((n+(s.data.toList.drop i).count 10:Nat):Int))
 | 0,i,k+1,n,hi,hn,_=>by
  rw[sennitref01_feeds.l0,if_neg (by omega),List.drop_of_length_le (by rw[← sizeLen];omega)];simp
 | r+1,i,k+1,n,hi,hn,hk=>by
  have hd:=dropCons (l:=s.data.toList) (i:=i) (by rw[← sizeLen];omega);rw[sennitref01_feeds.l0,if_pos (by omega),if_pos (by omega),btN (by omega),hd];obtain⟨c,hc⟩ : ∃ c,s.data.toList[i]'(by rw[← sizeLen];omega)=c:=⟨_,rfl⟩;rw[hc,gw1 (i:=i) (by omega),gw1 (i:=n) (by omega)]
  by_cases e:c=10
  ·
   rw[if_pos ((byte10 c).2 e),e,List.count_cons_self,ref_feeds_l0 s hs r (i+1) k (n+1) (by omega) (by omega) (by omega)]
   congr 1;omega
  (· rw[if_neg (fun h=>e ((byte10 c).1 h)),List.count_cons_of_ne e,ref_feeds_l0 s hs r (i+1) k n (by omega) (by omega) (by omega)])
theorem ref_feeds (s:ByteArray) (hs:s.size≤1000000000) (k:Nat) (hk:s.size+1≤k):sennitref01_feeds.f k s=some ((s.data.toList.count 10:Nat):Int):=by
 have:=ref_feeds_l0 s hs s.size 0 k 0 (by omega) (by omega) hk;simpa [sennitref01_feeds.f] using this
theorem last_idx (s:ByteArray) (h:0 < s.size):s.data.toList.getLast? = some (s.data.toList[s.size - 1]'(by rw[← sizeLen];omega)):=by
 rw[List.getLast?_eq_getElem?,List.getElem?_eq_getElem (by simp at h ⊢;omega)];simp
theorem ref_line (s:ByteArray) (hs:s.size≤1000000000) (k:Nat) (hk:s.size+1≤k):sennitref01_Line.f k s=some (lineClosed s):=by
 rw[sennitref01_Line.f,ref_feeds s hs k hk,Option.bind_some,closed_eq]
 by_cases h1:s.data.toList.count 10=1
 ·
  have hp:0 < s.size:=by
   rw[sizeLen];exact List.length_pos_iff.2 (fun e=>by rw[e] at h1;simp at h1)
  (have ew:wrap64 ((s.size:Int) - 1)=((s.size - 1:Nat):Int):=by rw[gw (by omega) (by omega)];omega);rw[if_pos (by omega),ew,if_pos (by omega),if_pos (by omega),btN (by omega),last_idx s hp]
  congr 1
  rw[decide_eq_true h1,Bool.true_and,Bool.eq_iff_iff];simp only[beq_iff_eq,decide_eq_true_eq,Option.some.injEq,byte10]
 (· rw[if_neg (by omega),decide_eq_false h1];rfl)
theorem ref_may_l0 (l:List ByteArray) (hl:l.length≤1000000) (M:Nat) (hM:M≤1000000) (hs : ∀ s ∈ l,s.size≤M) : ∀ (r i k:Nat),i+r=l.length→r+M+2≤k→sennitref01_May.l0 k l (i:Int)=some (mayL (l.drop i))
 | 0,i,k+1,hi,_=>by
  rw[sennitref01_May.l0,if_neg (by omega),List.drop_of_length_le (by omega)];rfl
 | r+1,i,k+1,hi,hk=>by
  (have hil:i < l.length:=by omega);have hd:=dropCons hil;have hz:l[i].size≤M:=hs _ (List.getElem_mem _);have ih:=ref_may_l0 l hl M hM hs r (i+1) k (by omega) (by omega);have hln:=ref_line l[i] (by omega) k (by omega);have hfd:=ref_feeds l[i] (by omega) k (by omega);rw[sennitref01_May.l0,if_pos (by omega),rdOfN hil,gw1 (by omega),gw (x:=(l.length:Int) - 1) (by omega) (by omega),hln,hfd,ih,hd]
  have hm:mayL (l[i] :: l.drop (i+1))=((lineClosed l[i] || ((decide (0 < l[i].size) && decide (l[i].data.toList.count 10=0)) && (l.drop (i+1)).isEmpty)) && mayL (l.drop (i+1))):=by
   rw[mayL,open_eq]
  have hnil:((l.drop (i+1)).isEmpty=true)↔((i:Int)=(l.length:Int) - 1):=by
   (rw[List.isEmpty_iff,List.drop_eq_nil_iff];omega)
  rw[hm];obtain⟨m,hm⟩ : ∃ m,mayL (l.drop (i+1))=m:=⟨_,rfl⟩;obtain⟨c,hc⟩ : ∃ c,lineClosed l[i]=c:=⟨_,rfl⟩;rw[hm,hc];simp only[Option.bind_some];clear hm hln hfd ih hd hc
  by_cases e1:(i:Int)=(l.length:Int) - 1
  ·
   rw[if_pos e1,if_pos (by omega),hnil.2 e1,Bool.and_true]
   by_cases e2:0 < l[i].size
   ·
    rw[if_pos (by omega),decide_eq_true e2,Bool.true_and]
    by_cases e3:l[i].data.toList.count 10=0
    (· rw[if_pos (by omega),decide_eq_true e3];(cases c <;> cases m <;> rfl));(· rw[if_neg (by omega),decide_eq_false e3];(cases c <;> cases m <;> rfl))
   (· rw[if_neg (by omega),decide_eq_false e2];(cases c <;> cases m <;> rfl))
  ·
   have:(l.drop (i+1)).isEmpty=false:=by
    cases hh:(l.drop (i+1)).isEmpty;(· rfl);(· exact absurd (hnil.1 hh) e1)
   rw[if_neg e1,if_pos (by omega),this,Bool.and_false];(cases c <;> cases m <;> rfl)
theorem ref_May01 (l:List ByteArray) (hl:l.length≤1000000) (hs : ∀ s ∈ l,s.size≤1000000):Gives (fun k=>sennitref01_May.f k l) (mayL l) :=
  ⟨l.length+1000000+2,fun k hk=>by
    have:=ref_may_l0 l hl 1000000 (Nat.le_refl _) hs l.length 0 k (by omega) hk
    simpa [sennitref01_May.f] using this⟩
def strings_Trim.f (a0 a1:ByteArray):Option ByteArray:=if a0.size≤9223372036854775807∧a1.size < 1000∧a1.data.toList.all (fun b=>decide (b.toNat < 128))=true then some ⟨(Lib.trimS a0.data.toList a1.data.toList).toArray⟩ else none
theorem strings_Trim.calls (a0 a1:ByteArray) (r:ByteArray) (w:World) (h:strings_Trim.f a0 a1=some r):Calls Tryd.prog 64 #[.string a0, .string a1] w fun e w'=>e = .returned (.string r)∧Below w.heap.size w w':=by
 (unfold strings_Trim.f at h);(split at h);(· rename_i hc;obtain⟨h1,h2,h3⟩:=hc;have h:=Option.some.inj h;subst h;exact Any.strings_Trim_laid Tryd.lays160 (by kernel_rfl) a0 a1 w h1 (by omega) (ascii_of_all h3));(· cases h)
end Go.Proofs.YthcnfflhejogfaaDoor.X
