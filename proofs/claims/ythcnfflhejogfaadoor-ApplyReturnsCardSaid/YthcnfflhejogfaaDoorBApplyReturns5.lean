/-
  Parts of one proof, one behind the other: XOn2, XQn1, XHk1, XHk2, XHk3, XHk4, XHk5, XHk7, XHs1, XHr2, XHk9, XHkA, XHkC, XCard, XHr3, XHr4, XHr5, XHr6, XHr7, XT1, XApD, XApP, XApM, XApC.
-/
import Derived.Test.YthcnfflhejogfaaDoorBApplyReturns4
import Derived.Lib.SplitLaws
import Derived.WalkMore
import Derived.Handy
import Derived.LoopIn
import Derived.Maps.OwnIn
import Derived.Maps.AppendAt
import Derived.Lib.SliceRun
import Derived.Handed
import Derived.Shelf.Vars
import Derived.Lib.CountLaws
import Derived.Lib.IndexBytes
import Derived.Lib.IndexLaws
set_option linter.unusedVariables false
set_option linter.unusedSimpArgs false
set_option maxRecDepth 100000
set_option maxHeartbeats 8000000
namespace Go.Proofs.YthcnfflhejogfaaDoor.X
open Go.RowKit Go.Proofs.YthcnfflhejogfaaDoorW.PrintWords Go.Proofs.YthcnfflhejogfaaDoorW.PrintLast Go.Proofs.YthcnfflhejogfaaDoorW.PrintMore
attribute [local go_sem] max2_int min2_int max_two min_two max_three min_three max_four min_four
mutual
def patch_May.l0:Nat→List (S48)→List (S48)→Int→Int→Option (Bool)
  | 0,_,_,_,_=>none
  | k+1,x0,x9,x10,x11=>if x11 < x10 then (if 0≤x11 then (if x11 < (x9.length:Int) then (if (((rd_T48 x9 x11).f2).length:Int)=0 then (patch_May.j1 k x0 x11 x9 x10 x11 true ((rd_T48 x9 x11).f0) ((rd_T48 x9 x11).f1.f0) ((rd_T48 x9 x11).f1.f1) ((rd_T48 x9 x11).f2)) else ((hunk_May.f k ((rd_T48 x9 x11).f2)).bind fun t113=>(if t113=true then (if 0 < (((rd_T48 x9 x11).f2).length:Int) then (if (((rd_T48 x9 x11).f0).length:Int)=(((rd_T57 ((rd_T48 x9 x11).f2) 0).f0).size:Int) then (if 0 < (x0.length:Int) then (patch_May.j1 k x0 x11 x9 x10 x11 ((((rd_T48 x9 x11).f0).length:Int) != (((rd_T48 x0 0).f0).length:Int)) ((rd_T48 x9 x11).f0) ((rd_T48 x9 x11).f1.f0) ((rd_T48 x9 x11).f1.f1) ((rd_T48 x9 x11).f2)) else (none)) else (patch_May.j1 k x0 x11 x9 x10 x11 true ((rd_T48 x9 x11).f0) ((rd_T48 x9 x11).f1.f0) ((rd_T48 x9 x11).f1.f1) ((rd_T48 x9 x11).f2))) else (none)) else (patch_May.j1 k x0 x11 x9 x10 x11 true ((rd_T48 x9 x11).f0) ((rd_T48 x9 x11).f1.f0) ((rd_T48 x9 x11).f1.f1) ((rd_T48 x9 x11).f2))))) else (none)) else (none)) else (some true)
def patch_May.j1:Nat→List (S48)→Int→List (S48)→Int→Int→Bool→List (S45)→Int→Int→List (S57)→Option (Bool)
  | 0,_,_,_,_,_,_,_,_,_,_=>none
  | k+1,x0,x3,x9,x10,x11,x48,x113000,x113001,x113002,x113003=>if x48=true then (some false) else (if 0≤(wrap64 ((x113000.length:Int)+1)) then (if (wrap64 ((x113000.length:Int)+1):Int).toNat≤17592186044416 then (if x3 > 0 then (if 0≤(wrap64 (x3 - 1)) then (if (wrap64 (x3 - 1)) < (x0.length:Int) then ((patch_spans.f ((rd_T48 x0 (wrap64 (x3 - 1))).f0) ((rd_T48 x0 (wrap64 (x3 - 1))).f1.f0) ((rd_T48 x0 (wrap64 (x3 - 1))).f1.f1) ((rd_T48 x0 (wrap64 (x3 - 1))).f2)).bind fun t120=>(patch_May.j2 k x0 t120 x9 x10 x11 x113000 x113001 x113002 x113003)) else (none)) else (none)) else (patch_May.j2 k x0 (List.replicate (wrap64 ((x113000.length:Int)+1):Int).toNat z45) x9 x10 x11 x113000 x113001 x113002 x113003)) else (none)) else (none))
def patch_May.j2:Nat→List (S48)→List (S45)→List (S48)→Int→Int→List (S45)→Int→Int→List (S57)→Option (Bool)
  | 0,_,_,_,_,_,_,_,_,_=>none
  | k+1,x0,x5,x9,x10,x11,x113000,x113001,x113002,x113003=>(patch_counts.f k x113000 x113001 x113002 x113003).bind fun t123=>((patch_spans.f x113000 x113001 x113002 x113003).bind fun t126=>(patch_May.l1 k x0 x5 t123 x9 x10 x11 t126 (t126.length:Int) 0))
def patch_May.l1:Nat→List (S48)→List (S45)→List Int→List (S48)→Int→Int→List (S45)→Int→Int→Option (Bool)
  | 0,_,_,_,_,_,_,_,_,_=>none
  | k+1,x0,x5,x6,x9,x10,x11,x65,x66,x67=>if x67 < x66 then (if 0≤x67 then (if x67 < (x65.length:Int) then (if x67 < (x5.length:Int) then (if x67 < (x6.length:Int) then ((patch_within.f ((rd_T45 x65 x67).f0) ((rd_T45 x65 x67).f1) ((rd_T45 x5 x67).f0) ((rd_T45 x5 x67).f1) (rd x6 x67)).bind fun t133=>(if t133=true then (patch_May.l1 k x0 x5 x6 x9 x10 x11 x65 x66 (wrap64 (x67+1))) else (some false))) else (none)) else (none)) else (none)) else (none)) else (patch_May.l0 k x0 x9 x10 (wrap64 (x11+1)))
end
def patch_May.f (k:Nat) (l0:List (S48)):Option (Bool):=patch_May.l0 k l0 l0 (l0.length:Int) 0
def patch_May.T4:Bool × List (List Nat × List Nat):=(true,[([],[]),([0],[0]),([1],[1]),([2],[2]),([3],[3]),([4],[4]),([5,4],[4,5]),([6,4,4],[4,6]),([7,4],[4,7]),([4,8],[4,8]),([9,7],[9]),([10],[10]),([11,10],[10,11]),([12,10],[10,12]),([10],[10]),([14,10],[10,14]),([15,10],[10,15]),([16,10],[10,16]),([17,10],[10,17]),([18,10],[10,18]),([13,19,10],[10,13,19]),([10,20],[10,20]),([21,10],[21]),([22],[22]),([23,22],[22,23]),([24,22],[22,24]),([22],[22]),([26,22],[22,26]),([27,22],[22,27]),([28,22],[22,28]),([29,22],[22,29]),([25,30,22],[22,25,30]),([22,31],[22,31])])
def patch_May.B4:List Nat:=[0,1,3,7,15,31,63,127,255,511,1023,2047,4095,8191,2047,18431,51199,116735,247807,509951,1048575,2097151,4194303,8388607,16777215,33554431,8388607,75497471,209715199,478150655,1015021567,2147483647,4294967295]
theorem patch_May.tab4:rtab .any (opsOf Tryd.f95 4)=patch_May.T4:=by kernel_rfl
theorem patch_May.bits4:waitsOk patch_May.T4.2 patch_May.B4=true:=by kernel_rfl
def patch_May.T13:Bool × List (List Nat × List Nat):=(true,[([],[]),([],[]),([],[]),([1,2],[1,2]),([3],[3]),([],[]),([],[]),([5,6],[5,6]),([7],[7]),([0,4,8],[0,4,8]),([9],[9])])
def patch_May.B13:List Nat:=[0,0,0,6,14,0,0,96,224,511,1023]
theorem patch_May.tab13:rtab .any (opsOf Tryd.f95 13)=patch_May.T13:=by kernel_rfl
theorem patch_May.bits13:waitsOk patch_May.T13.2 patch_May.B13=true:=by kernel_rfl
theorem patch_May.calls (k:Nat) (A0:Option Addr) (c0:Nat) (l0:List (S48)) (r:Bool) (w:World) (hr0:Kd.C k48 w A0 l0.length l0) (hc0:l0.length≤c0) (h:patch_May.f k l0=some r) :
    Calls Tryd.prog 95 #[.slice A0 l0.length c0] w fun e w'=>e = .returned (.bool r)∧Below w.heap.size w w':=by
 have hu48:=Tryd.underlying48;have hu45:=Tryd.underlying45;have HR0:=Aside0.mk hr0;have HC0:=Aside0.mk hc0;clear hr0 hc0;have HB:=Aside0.mk (Below.refl w.heap.size w);have H:=h;(rw[patch_May.f] at H);clear h;have H':=Aside0.mk H;clear H;go_enter Tryd.func95,Tryd.ntmps95;go_wp2
 go_loopg [11] k (fun kq v11 w' => ∃ (x11_1:Int),v11 = .int .i64 x11_1∧Aside0 (patch_May.l0 kq l0 l0 (l0.length:Int) x11_1=some r)∧Aside0 (kq≤k)∧Aside0 (Below w.heap.size w w'))
 (case atStart=>exact⟨(0),rs_,H',⟨Nat.le_refl _⟩,⟨bel_⟩⟩)
 case round =>
  clear H';obtain⟨x11_1,rfl,HA,HK1,HB⟩:=hrel
  cases gk with
  | zero=>exact absurd HA.out (by simp[patch_May.l0])
  | succ k1 =>
   have H:=HA.out;clear HA;(simp only[patch_May.l0] at H)
   by_cases c2:x11_1 < (l0.length:Int)
   ·
    (rw[if_pos c2] at H);have c2b0:decide (x11_1 < (l0.length:Int))=true:=decide_eq_true c2;clear c2
    by_cases c3:0≤x11_1
    ·
     (rw[if_pos c3] at H);have c3b0:decide (0≤x11_1)=true:=decide_eq_true c3;clear c3
     by_cases c4:x11_1 < (l0.length:Int)
     ·
      (rw[if_pos c4] at H);have c4b0:decide (x11_1 < (l0.length:Int))=true:=decide_eq_true c4;clear c4;have HC5:=Aside0.mk H;clear H;have p111:0≤(x11_1:Int):=dt_;have q111:x11_1 < (l0.length:Int):=dt_;obtain⟨ad111,A111_0,c111_0,A111_3,c111_3,e111,hx111_0,hx111_1,hx111_2,hx111_3,hl111_0,hi111_0,hl111_3,hi111_3⟩:=at_T48 HR0.out x11_1 p111 q111;cases e111;replace hx111_0:=(HB.out.cell (World.block_lt_of_cell? w _ hx111_0)).trans hx111_0;replace hx111_1:=(HB.out.cell (World.block_lt_of_cell? w _ hx111_1)).trans hx111_1;replace hx111_2:=(HB.out.cell (World.block_lt_of_cell? w _ hx111_2)).trans hx111_2;replace hx111_3:=(HB.out.cell (World.block_lt_of_cell? w _ hx111_3)).trans hx111_3;have HR111_0:=Aside0.mk hi111_0;have HC111_0:=Aside0.mk hl111_0;clear hi111_0 hl111_0;have HR111_3:=Aside0.mk hi111_3;have HC111_3:=Aside0.mk hl111_3;clear hi111_3 hl111_3;replace p111:=eq_true p111;replace q111:=eq_true q111
      go_upto_region 4 with (first|((with_reducible refine gate_dst (N:=4) rfl ?_);(try(refine gate_guard (by rfl) ?_;dsimp only));refine box_event ?hg (N:=4) ?hd (cs:=#[.slice none 0 0, .int .i64 0, .int .i64 0, .slice none 0 0]) (t:=48) ?hr ?_;(case hd=>rfl);(case hg=>rfl);(case hr=>first|(go_simp;done)|(go_simp;rfl));intro gb112 hg w6 hbox hb;have BK112:=Aside0.mk (hbox);have GW112:=Aside0.mk ((by rw[hg];exact(below_size bel_):w.heap.size≤gb112));have GE112:=Aside0.mk ((by rw[hg];exact(below_size bel_):w.heap.size≤gb112));replace HB:=Aside0.mk (below_step bel_ hb);clear hb hbox hg;have hcz7_0:w6.cell? ⟨gb112,0,none⟩=some (.slice none 0 0):=(blk_cell BK112.out 0).trans rfl;have hcz7_1:w6.cell? ⟨gb112,1,none⟩=some (.int .i64 0):=(blk_cell BK112.out 1).trans rfl;have hcz7_2:w6.cell? ⟨gb112,2,none⟩=some (.int .i64 0):=(blk_cell BK112.out 2).trans rfl;have hcz7_3:w6.cell? ⟨gb112,3,none⟩=some (.slice none 0 0):=(blk_cell BK112.out 3).trans rfl;have hfz7_0:=blk_frozen BK112.out 0;have hfz7_1:=blk_frozen BK112.out 1;have hfz7_2:=blk_frozen BK112.out 2;have hfz7_3:=blk_frozen BK112.out 3))
      (try simp only[Act.put,List.setIfInBounds_toArray,List.set_cons_zero,List.set_cons_succ])
      go_cut [48] (fun v48 wc => ∃ (kq:Nat) (x48_4:Bool),v48 = .bool x48_4∧Aside0 (patch_May.j1 kq l0 x11_1 l0 (l0.length:Int) x11_1 x48_4 ((rd_T48 l0 x11_1).f0) ((rd_T48 l0 x11_1).f1.f0) ((rd_T48 l0 x11_1).f1.f1) ((rd_T48 l0 x11_1).f2)=some r)∧Aside0 (kq≤k1)∧Aside0 (wc.heap[gb112]? = some (.cells #[(.slice A111_0 ((rd_T48 l0 x11_1).f0).length c111_0), .int .i64 ((rd_T48 l0 x11_1).f1.f0), .int .i64 ((rd_T48 l0 x11_1).f1.f1),(.slice A111_3 ((rd_T48 l0 x11_1).f2).length c111_3)] 48 (0,0)))∧Aside0 (Below w.heap.size w wc))
      case first =>
       have H:=HC5.out;clear HC5
       by_cases c8:(((rd_T48 l0 x11_1).f2).length:Int)=0
       ·
        (rw[if_pos c8] at H);have c8b0:((((rd_T48 l0 x11_1).f2).length:Int) == 0)=true:=beq_iff_eq.mpr c8;have c8b1:((((rd_T48 l0 x11_1).f2).length:Int) != 0)=false:=bne_eq_false_iff_eq.mpr c8;clear c8;(first|rw[c8b0]|(simp only[i64_w,i32_w];rw[c8b0])|skip);have H':=Aside0.mk H;clear H;(try go_wp2);have n0_:Aside0 (((((w6.setCell ⟨gb112,0,none⟩ (.slice A111_0 ((rd_T48 l0 x11_1).f0).length c111_0)).setCell ⟨gb112,1,none⟩ (.int .i64 ((rd_T48 l0 x11_1).f1.f0))).setCell ⟨gb112,2,none⟩ (.int .i64 ((rd_T48 l0 x11_1).f1.f1))).setCell ⟨gb112,3,none⟩ (.slice A111_3 ((rd_T48 l0 x11_1).f2).length c111_3)).heap[gb112]? = some (.cells #[.slice A111_0 ((rd_T48 l0 x11_1).f0).length c111_0, .int .i64 ((rd_T48 l0 x11_1).f1.f0), .int .i64 ((rd_T48 l0 x11_1).f1.f1), .slice A111_3 ((rd_T48 l0 x11_1).f2).length c111_3] 48 (0,0))):=⟨by(with_reducible repeat(first|refine blk_drewN ?_ _|refine blk_drew ?_|refine blk_alloc ?_ _));refine blk_put (cs:=#[.slice A111_0 ((rd_T48 l0 x11_1).f0).length c111_0, .int .i64 ((rd_T48 l0 x11_1).f1.f0), .int .i64 ((rd_T48 l0 x11_1).f1.f1), .slice none 0 0]) ?_ 3 _ rfl;(with_reducible repeat(first|refine blk_drewN ?_ _|refine blk_drew ?_|refine blk_alloc ?_ _));refine blk_put (cs:=#[.slice A111_0 ((rd_T48 l0 x11_1).f0).length c111_0, .int .i64 ((rd_T48 l0 x11_1).f1.f0), .int .i64 0, .slice none 0 0]) ?_ 2 _ rfl;(with_reducible repeat(first|refine blk_drewN ?_ _|refine blk_drew ?_|refine blk_alloc ?_ _));refine blk_put (cs:=#[.slice A111_0 ((rd_T48 l0 x11_1).f0).length c111_0, .int .i64 0, .int .i64 0, .slice none 0 0]) ?_ 1 _ rfl;(with_reducible repeat(first|refine blk_drewN ?_ _|refine blk_drew ?_|refine blk_alloc ?_ _));refine blk_put (cs:=#[.slice none 0 0, .int .i64 0, .int .i64 0, .slice none 0 0]) ?_ 0 _ rfl;(with_reducible repeat(first|refine blk_drewN ?_ _|refine blk_drew ?_|refine blk_alloc ?_ _));exact BK112.out⟩;have n1_:Aside0 (Below w.heap.size w ((((w6.setCell ⟨gb112,0,none⟩ (.slice A111_0 ((rd_T48 l0 x11_1).f0).length c111_0)).setCell ⟨gb112,1,none⟩ (.int .i64 ((rd_T48 l0 x11_1).f1.f0))).setCell ⟨gb112,2,none⟩ (.int .i64 ((rd_T48 l0 x11_1).f1.f1))).setCell ⟨gb112,3,none⟩ (.slice A111_3 ((rd_T48 l0 x11_1).f2).length c111_3))):=⟨bs1_ GE112.out⟩;(try clear BK112);(try clear HB);(generalize ((((w6.setCell ⟨gb112,0,none⟩ (.slice A111_0 ((rd_T48 l0 x11_1).f0).length c111_0)).setCell ⟨gb112,1,none⟩ (.int .i64 ((rd_T48 l0 x11_1).f1.f0))).setCell ⟨gb112,2,none⟩ (.int .i64 ((rd_T48 l0 x11_1).f1.f1))).setCell ⟨gb112,3,none⟩ (.slice A111_3 ((rd_T48 l0 x11_1).f2).length c111_3))=w9 at n0_ n1_ ⊢);have BK112:=n0_;have HB:=n1_;clear n0_ n1_;replace BK112:=Aside0.mk (blk_drew BK112.out);replace HB:=Aside0.mk (below_drew1 HB.out);(refine start_ (n:=33) (S:=fun w'=>w'.cell? ⟨gb112,0,none⟩=some (.slice A111_0 ((rd_T48 l0 x11_1).f0).length c111_0)∧w'.cell? ⟨gb112,1,none⟩=some (.int .i64 ((rd_T48 l0 x11_1).f1.f0))∧w'.cell? ⟨gb112,2,none⟩=some (.int .i64 ((rd_T48 l0 x11_1).f1.f1))∧w'.cell? ⟨gb112,3,none⟩=some (.slice A111_3 ((rd_T48 l0 x11_1).f2).length c111_3)) (ds:=[]) (bm_ 33 0) (by kernel_rfl) rfl rfl ⟨(blk_cell BK112.out 0).trans rfl,(blk_cell BK112.out 1).trans rfl,(blk_cell BK112.out 2).trans rfl,(blk_cell BK112.out 3).trans rfl⟩ (fun hHeld=>?_);refine with_tabW patch_May.tab4 patch_May.bits4 (fun HT_ HW_=>?_));(generalize w9.drew=w10 at BK112 HB hHeld ⊢);refine pq_ (i:=0) (N:=some 16) (hc:=any_of HT_.out (by kernel_rfl)) (bm_ 33 1) ?_;refine tq_ (i:=1) (N:=some 17) (hc:=take_ofW HT_.out HW_.out (by kernel_rfl)) (bm_ 33 3) hHeld ?_;refine pq_ (i:=2) (N:=some 18) (hc:=any_of HT_.out (by kernel_rfl)) (bm_ 33 7) ?_;refine pure_ (i:=3) (N:=some 19) (v:=?_) (a':=?_) (bm_ 33 15) rfl rfl (any_of HT_.out (by kernel_rfl)) (fun _ _ _ h=>h) (Or.inl ⟨by rfl,?_⟩) ?_ ?_;rotate_left
        (· intro w';go_simp;(with_reducible rfl));rotate_left;(· simp only[Act.put,List.setIfInBounds_toArray,List.set_cons_zero,List.set_cons_succ,i64_w,i32_w];rfl);refine pq_ (i:=4) (N:=some 20) (hc:=any_of HT_.out (by kernel_rfl)) (bm_ 33 31) ?_;refine pu_ (i:=5) (N:=some 21) (hc:=any_of HT_.out (by kernel_rfl)) (bm_ 33 63) ?_;refine pu_ (i:=6) (N:=some 22) (hc:=any_of HT_.out (by kernel_rfl)) (bm_ 33 127) ?_;refine pu_ (i:=7) (N:=some 23) (hc:=any_of HT_.out (by kernel_rfl)) (bm_ 33 255) ?_;refine pu_ (i:=8) (N:=some 24) (hc:=any_of HT_.out (by kernel_rfl)) (bm_ 33 511) ?_;refine pq_ (i:=9) (N:=some 25) (hc:=any_of HT_.out (by kernel_rfl)) (bm_ 33 1023) ?_;refine pq_ (i:=10) (N:=some 26) (hc:=any_of HT_.out (by kernel_rfl)) (bm_ 33 2047) ?_;refine pu_ (i:=11) (N:=some 27) (hc:=any_of HT_.out (by kernel_rfl)) (bm_ 33 4095) ?_;refine pu_ (i:=12) (N:=some 28) (hc:=any_of HT_.out (by kernel_rfl)) (bm_ 33 8191) ?_;refine pu_ (i:=13) (N:=some 29) (hc:=any_of HT_.out (by kernel_rfl)) (bm_ 33 16383) ?_;refine pu_ (i:=14) (N:=some 30) (hc:=any_of HT_.out (by kernel_rfl)) (bm_ 33 32767) ?_
        refine pu_ (i:=15) (N:=some 31) (hc:=any_of HT_.out (by kernel_rfl)) (bm_ 33 65535) ?_;refine pu_ (i:=16) (N:=some 32) (hc:=any_of HT_.out (by kernel_rfl)) (bm_ 33 131071) ?_;refine pu_ (i:=17) (N:=some 33) (hc:=any_of HT_.out (by kernel_rfl)) (bm_ 33 262143) ?_;refine pu_ (i:=18) (N:=some 34) (hc:=any_of HT_.out (by kernel_rfl)) (bm_ 33 524287) ?_;refine pu_ (i:=19) (N:=some 35) (hc:=any_of HT_.out (by kernel_rfl)) (bm_ 33 1048575) ?_;refine pu_ (i:=20) (N:=some 36) (hc:=any_of HT_.out (by kernel_rfl)) (bm_ 33 2097151) ?_;refine pq_ (i:=21) (N:=some 37) (hc:=any_of HT_.out (by kernel_rfl)) (bm_ 33 4194303) ?_;refine pq_ (i:=22) (N:=some 38) (hc:=any_of HT_.out (by kernel_rfl)) (bm_ 33 8388607) ?_;refine pu_ (i:=23) (N:=some 39) (hc:=any_of HT_.out (by kernel_rfl)) (bm_ 33 16777215) ?_;refine pu_ (i:=24) (N:=some 40) (hc:=any_of HT_.out (by kernel_rfl)) (bm_ 33 33554431) ?_;refine pu_ (i:=25) (N:=some 41) (hc:=any_of HT_.out (by kernel_rfl)) (bm_ 33 67108863) ?_;refine pu_ (i:=26) (N:=some 42) (hc:=any_of HT_.out (by kernel_rfl)) (bm_ 33 134217727) ?_
        refine pu_ (i:=27) (N:=some 43) (hc:=any_of HT_.out (by kernel_rfl)) (bm_ 33 268435455) ?_;refine pu_ (i:=28) (N:=some 44) (hc:=any_of HT_.out (by kernel_rfl)) (bm_ 33 536870911) ?_;refine pu_ (i:=29) (N:=some 45) (hc:=any_of HT_.out (by kernel_rfl)) (bm_ 33 1073741823) ?_;refine pu_ (i:=30) (N:=some 46) (hc:=any_of HT_.out (by kernel_rfl)) (bm_ 33 2147483647) ?_;refine pu_ (i:=31) (N:=some 47) (hc:=any_of HT_.out (by kernel_rfl)) (bm_ 33 4294967295) ?_;refine pq_ (i:=32) (N:=some 48) (hc:=any_of HT_.out (by kernel_rfl)) (bm_ 33 8589934591) ?_;refine done_ (done_of HT_.out (by kernel_rfl)) ?_;(try go_wp2)
        go_meet
        (case rel=>exact⟨_,(true),rs_,H',⟨by have:=HK1.out;first|omega|exact Nat.le_refl _⟩,⟨pK_ BK112.out⟩,⟨bs1_ GE112.out⟩⟩)
       ·
        (rw[if_neg c8] at H);have c8b0:((((rd_T48 l0 x11_1).f2).length:Int) == 0)=false:=beq_eq_false_iff_ne.mpr c8;have c8b1:((((rd_T48 l0 x11_1).f2).length:Int) != 0)=true:=bne_iff_ne.mpr c8;(have c8b2 : ¬ (((rd_T48 l0 x11_1).f2)=[]):=fun h_=>c8 (by rw[h_];rfl));(first|rw[c8b0]|(simp only[i64_w,i32_w];rw[c8b0])|skip);replace H:=Option.bind_eq_some_iff.mp H;obtain⟨t113,A110,H⟩:=H;(try dsimp only at H);have A11:=Aside0.mk A110;clear A110
        by_cases c12:t113=true
        ·
         subst c12;have H1:=H;(rw[if_pos rfl] at H1);clear H;have H:=H1;clear H1
         by_cases c13:0 < (((rd_T48 l0 x11_1).f2).length:Int)
         ·
          (rw[if_pos c13] at H);have c13b0:decide (0 < (((rd_T48 l0 x11_1).f2).length:Int))=true:=decide_eq_true c13;have c13b1:decide (0 < ((rd_T48 l0 x11_1).f2).length)=true:=decide_eq_true (by omega);clear c13
          by_cases c14:(((rd_T48 l0 x11_1).f0).length:Int)=(((rd_T57 ((rd_T48 l0 x11_1).f2) 0).f0).size:Int)
          ·
           (rw[if_pos c14] at H);have c14b0:((((rd_T48 l0 x11_1).f0).length:Int) == (((rd_T57 ((rd_T48 l0 x11_1).f2) 0).f0).size:Int))=true:=beq_iff_eq.mpr c14;have c14b1:((((rd_T48 l0 x11_1).f0).length:Int) != (((rd_T57 ((rd_T48 l0 x11_1).f2) 0).f0).size:Int))=false:=bne_eq_false_iff_eq.mpr c14;(have c14b2:(((rd_T48 l0 x11_1).f0).length == ((rd_T57 ((rd_T48 l0 x11_1).f2) 0).f0).size)=true:=by first|simpa using c14|(simp at c14 ⊢;omega));clear c14
           by_cases c15:0 < (l0.length:Int)
           ·
            (rw[if_pos c15] at H);have c15b0:decide (0 < (l0.length:Int))=true:=decide_eq_true c15;have c15b1:decide (0 < l0.length)=true:=decide_eq_true (by omega);clear c15;have H':=Aside0.mk H;clear H;(try go_wp2);have n0_:Aside0 (((((w6.setCell ⟨gb112,0,none⟩ (.slice A111_0 ((rd_T48 l0 x11_1).f0).length c111_0)).setCell ⟨gb112,1,none⟩ (.int .i64 ((rd_T48 l0 x11_1).f1.f0))).setCell ⟨gb112,2,none⟩ (.int .i64 ((rd_T48 l0 x11_1).f1.f1))).setCell ⟨gb112,3,none⟩ (.slice A111_3 ((rd_T48 l0 x11_1).f2).length c111_3)).heap[gb112]? = some (.cells #[.slice A111_0 ((rd_T48 l0 x11_1).f0).length c111_0, .int .i64 ((rd_T48 l0 x11_1).f1.f0), .int .i64 ((rd_T48 l0 x11_1).f1.f1), .slice A111_3 ((rd_T48 l0 x11_1).f2).length c111_3] 48 (0,0))):=⟨by(with_reducible repeat(first|refine blk_drewN ?_ _|refine blk_drew ?_|refine blk_alloc ?_ _));refine blk_put (cs:=#[.slice A111_0 ((rd_T48 l0 x11_1).f0).length c111_0, .int .i64 ((rd_T48 l0 x11_1).f1.f0), .int .i64 ((rd_T48 l0 x11_1).f1.f1), .slice none 0 0]) ?_ 3 _ rfl;(with_reducible repeat(first|refine blk_drewN ?_ _|refine blk_drew ?_|refine blk_alloc ?_ _));refine blk_put (cs:=#[.slice A111_0 ((rd_T48 l0 x11_1).f0).length c111_0, .int .i64 ((rd_T48 l0 x11_1).f1.f0), .int .i64 0, .slice none 0 0]) ?_ 2 _ rfl;(with_reducible repeat(first|refine blk_drewN ?_ _|refine blk_drew ?_|refine blk_alloc ?_ _));refine blk_put (cs:=#[.slice A111_0 ((rd_T48 l0 x11_1).f0).length c111_0, .int .i64 0, .int .i64 0, .slice none 0 0]) ?_ 1 _ rfl;(with_reducible repeat(first|refine blk_drewN ?_ _|refine blk_drew ?_|refine blk_alloc ?_ _));refine blk_put (cs:=#[.slice none 0 0, .int .i64 0, .int .i64 0, .slice none 0 0]) ?_ 0 _ rfl;(with_reducible repeat(first|refine blk_drewN ?_ _|refine blk_drew ?_|refine blk_alloc ?_ _));exact BK112.out⟩;have n1_:Aside0 (Below w.heap.size w ((((w6.setCell ⟨gb112,0,none⟩ (.slice A111_0 ((rd_T48 l0 x11_1).f0).length c111_0)).setCell ⟨gb112,1,none⟩ (.int .i64 ((rd_T48 l0 x11_1).f1.f0))).setCell ⟨gb112,2,none⟩ (.int .i64 ((rd_T48 l0 x11_1).f1.f1))).setCell ⟨gb112,3,none⟩ (.slice A111_3 ((rd_T48 l0 x11_1).f2).length c111_3))):=⟨bs1_ GE112.out⟩;(try clear BK112);(try clear HB);(generalize ((((w6.setCell ⟨gb112,0,none⟩ (.slice A111_0 ((rd_T48 l0 x11_1).f0).length c111_0)).setCell ⟨gb112,1,none⟩ (.int .i64 ((rd_T48 l0 x11_1).f1.f0))).setCell ⟨gb112,2,none⟩ (.int .i64 ((rd_T48 l0 x11_1).f1.f1))).setCell ⟨gb112,3,none⟩ (.slice A111_3 ((rd_T48 l0 x11_1).f2).length c111_3))=w16 at n0_ n1_ ⊢);have BK112:=n0_;have HB:=n1_;clear n0_ n1_;replace BK112:=Aside0.mk (blk_drew BK112.out);replace HB:=Aside0.mk (below_drew1 HB.out);have p114:0≤(0:Int):=(by omega);have q114:0 < (((rd_T48 l0 x11_1).f2).length:Int):=dt_;obtain⟨ad114,e114,hx114_0,hx114_1⟩:=at_T57 HR111_3.out 0 p114 q114;have hw114_1:=hx114_1;(try rw[show ((0:Int)).toNat=0 from rfl] at hw114_1);(try rw[show 0 * 2=0 from rfl] at hw114_1);(try rw[Addr.add_zero'] at hw114_1);have hw114_0:=hx114_0;(try rw[show ((0:Int)).toNat=0 from rfl] at hw114_0);(try rw[show 0 * 2=0 from rfl] at hw114_0);(try rw[Addr.add_zero'] at hw114_0);cases e114;have qi114:(0 < ((rd_T48 l0 x11_1).f2).length)=True:=eq_true (by omega);(try rw[show ((0:Int)).toNat=0 from rfl] at hx114_0);(try rw[show 0 * 2=0 from rfl] at hx114_0);(try rw[Addr.add_zero'] at hx114_0);(try rw[show ((0:Int)).toNat=0 from rfl] at hx114_1);(try rw[show 0 * 2=0 from rfl] at hx114_1);(try rw[Addr.add_zero'] at hx114_1);replace hx114_0:=(HB.out.cell (World.block_lt_of_cell? w _ hx114_0)).trans hx114_0;replace hx114_1:=(HB.out.cell (World.block_lt_of_cell? w _ hx114_1)).trans hx114_1;replace p114:=eq_true p114;replace q114:=eq_true q114;have p115:0≤(0:Int):=(by omega);have q115:0 < (l0.length:Int):=dt_;obtain⟨ad115,A115_0,c115_0,A115_3,c115_3,e115,hx115_0,hx115_1,hx115_2,hx115_3,hl115_0,hi115_0,hl115_3,hi115_3⟩:=at_T48 HR0.out 0 p115 q115;have hw115_3:=hx115_3;(try rw[show ((0:Int)).toNat=0 from rfl] at hw115_3);(try rw[show 0 * 4=0 from rfl] at hw115_3);(try rw[Addr.add_zero'] at hw115_3);have hw115_2:=hx115_2;(try rw[show ((0:Int)).toNat=0 from rfl] at hw115_2);(try rw[show 0 * 4=0 from rfl] at hw115_2);(try rw[Addr.add_zero'] at hw115_2);have hw115_1:=hx115_1;(try rw[show ((0:Int)).toNat=0 from rfl] at hw115_1);(try rw[show 0 * 4=0 from rfl] at hw115_1);(try rw[Addr.add_zero'] at hw115_1);have hw115_0:=hx115_0;(try rw[show ((0:Int)).toNat=0 from rfl] at hw115_0);(try rw[show 0 * 4=0 from rfl] at hw115_0);(try rw[Addr.add_zero'] at hw115_0);obtain rfl:ad111=ad115:=(by injection e115);have qi115:(0 < l0.length)=True:=eq_true (by omega);(try rw[show ((0:Int)).toNat=0 from rfl] at hx115_0);(try rw[show 0 * 4=0 from rfl] at hx115_0);(try rw[Addr.add_zero'] at hx115_0);(try rw[show ((0:Int)).toNat=0 from rfl] at hx115_1);(try rw[show 0 * 4=0 from rfl] at hx115_1);(try rw[Addr.add_zero'] at hx115_1);(try rw[show ((0:Int)).toNat=0 from rfl] at hx115_2);(try rw[show 0 * 4=0 from rfl] at hx115_2);(try rw[Addr.add_zero'] at hx115_2);(try rw[show ((0:Int)).toNat=0 from rfl] at hx115_3);(try rw[show 0 * 4=0 from rfl] at hx115_3);(try rw[Addr.add_zero'] at hx115_3);replace hx115_0:=(HB.out.cell (World.block_lt_of_cell? w _ hx115_0)).trans hx115_0;replace hx115_1:=(HB.out.cell (World.block_lt_of_cell? w _ hx115_1)).trans hx115_1;replace hx115_2:=(HB.out.cell (World.block_lt_of_cell? w _ hx115_2)).trans hx115_2;replace hx115_3:=(HB.out.cell (World.block_lt_of_cell? w _ hx115_3)).trans hx115_3
            have HR115_0:=Aside0.mk hi115_0;have HC115_0:=Aside0.mk hl115_0;clear hi115_0 hl115_0;have HR115_3:=Aside0.mk hi115_3;have HC115_3:=Aside0.mk hl115_3;clear hi115_3 hl115_3;replace p115:=eq_true p115;replace q115:=eq_true q115;(refine start_ (n:=33) (S:=fun w'=>w'.cell? ⟨gb112,0,none⟩=some (.slice A111_0 ((rd_T48 l0 x11_1).f0).length c111_0)∧w'.cell? ⟨gb112,1,none⟩=some (.int .i64 ((rd_T48 l0 x11_1).f1.f0))∧w'.cell? ⟨gb112,2,none⟩=some (.int .i64 ((rd_T48 l0 x11_1).f1.f1))∧w'.cell? ⟨gb112,3,none⟩=some (.slice (some ad114) ((rd_T48 l0 x11_1).f2).length c111_3)∧w'.cell? ad114=some (.string ((rd_T57 ((rd_T48 l0 x11_1).f2) 0).f0))∧w'.cell? ⟨ad114.block,ad114.off+1,none⟩=some (.string ((rd_T57 ((rd_T48 l0 x11_1).f2) 0).f1))∧w'.cell? ad111=some (.slice A115_0 ((rd_T48 l0 0).f0).length c115_0)∧w'.cell? ⟨ad111.block,ad111.off+1,none⟩=some (.int .i64 ((rd_T48 l0 0).f1.f0))∧w'.cell? ⟨ad111.block,ad111.off+2,none⟩=some (.int .i64 ((rd_T48 l0 0).f1.f1))∧w'.cell? ⟨ad111.block,ad111.off+3,none⟩=some (.slice A115_3 ((rd_T48 l0 0).f2).length c115_3)) (ds:=[]) (bm_ 33 0) (by kernel_rfl) rfl rfl ⟨(blk_cell BK112.out 0).trans rfl,(blk_cell BK112.out 1).trans rfl,(blk_cell BK112.out 2).trans rfl,(blk_cell BK112.out 3).trans rfl,((HB.out.cell (World.block_lt_of_cell? w _ hw114_0)).trans hw114_0),((HB.out.cell (World.block_lt_of_cell? w _ hw114_1)).trans hw114_1),((HB.out.cell (World.block_lt_of_cell? w _ hw115_0)).trans hw115_0),((HB.out.cell (World.block_lt_of_cell? w _ hw115_1)).trans hw115_1),((HB.out.cell (World.block_lt_of_cell? w _ hw115_2)).trans hw115_2),((HB.out.cell (World.block_lt_of_cell? w _ hw115_3)).trans hw115_3)⟩ (fun hHeld=>?_);refine with_tabW patch_May.tab4 patch_May.bits4 (fun HT_ HW_=>?_));(generalize w16.drew=w17 at BK112 HB HR115_0 HR115_3 hx114_0 hx114_1 hx115_0 hx115_1 hx115_2 hx115_3 hHeld ⊢);refine pq_ (i:=0) (N:=some 16) (hc:=any_of HT_.out (by kernel_rfl)) (bm_ 33 1) ?_;refine tq_ (i:=1) (N:=some 17) (hc:=take_ofW HT_.out HW_.out (by kernel_rfl)) (bm_ 33 3) hHeld ?_;refine pq_ (i:=2) (N:=some 18) (hc:=any_of HT_.out (by kernel_rfl)) (bm_ 33 7) ?_;refine pq_ (i:=3) (N:=some 19) (hc:=any_of HT_.out (by kernel_rfl)) (bm_ 33 15) ?_;refine pq_ (i:=4) (N:=some 20) (hc:=any_of HT_.out (by kernel_rfl)) (bm_ 33 31) ?_;refine pq_ (i:=5) (N:=some 21) (hc:=any_of HT_.out (by kernel_rfl)) (bm_ 33 63) ?_;refine take_ (i:=6) (N:=some 22) (v:=?_) (a':=?_) (bm_ 33 127) rfl rfl (take_ofW HT_.out HW_.out (by kernel_rfl)) (fun _ _ _ h=>h) (Or.inl ⟨by rfl,?_⟩) hHeld ?_ ?_;rotate_left;(· rintro w' ⟨s0,s1,s2,s3,s4,s5,s6,s7,s8,s9⟩;go_simp;(with_reducible rfl));rotate_left
            (· simp only[Act.put,List.setIfInBounds_toArray,List.set_cons_zero,List.set_cons_succ,i64_w,i32_w];rfl);refine one_ (i:=7) (N:=some 23) (bm_ 33 255) rfl rfl (one_of HT_.out (by kernel_rfl)) (by decide) (fun K hK=>?_);refine goes_ Tryd.func35 (by kernel_rfl) rfl #[.slice (some ad114) ((rd_T48 l0 x11_1).f2).length c111_3] (by rfl) rfl rfl am_ ?_;(with_reducible refine(hunk_May.calls k1 _ _ ((rd_T48 l0 x11_1).f2) true _ ?side1 ?side2 A11.out).mono ?_);(case side1=>repeat(first|exact(Kd.C_below HR111_3.out HB.out)|(with_reducible refine Kd.C_alloc ?_ _)|(with_reducible refine Kd.C_drewN ?_ _)|(with_reducible refine Kd.C_drew ?_)));(case side2=>exact HC111_3.out);rintro e w18 ⟨rfl,hb⟩;refine⟨_,rfl,?_⟩;replace BK112:=Aside0.mk (blk_below (g:=gb112) (o := .cells #[.slice A111_0 ((rd_T48 l0 x11_1).f0).length c111_0, .int .i64 ((rd_T48 l0 x11_1).f1.f0), .int .i64 ((rd_T48 l0 x11_1).f1.f1), .slice (some ad114) ((rd_T48 l0 x11_1).f2).length c111_3] 48 (0,0)) (pK_ BK112.out) hb);replace HB:=Aside0.mk (below_step (bs1_ GE112.out) hb);(try clear hb);(try clear hb2);(try clear hk);(try clear hi);refine hK.out _ _ ⟨(blk_cell BK112.out 0).trans rfl,(blk_cell BK112.out 1).trans rfl,(blk_cell BK112.out 2).trans rfl,(blk_cell BK112.out 3).trans rfl,((HB.out.cell (World.block_lt_of_cell? w _ hw114_0)).trans hw114_0),((HB.out.cell (World.block_lt_of_cell? w _ hw114_1)).trans hw114_1),((HB.out.cell (World.block_lt_of_cell? w _ hw115_0)).trans hw115_0),((HB.out.cell (World.block_lt_of_cell? w _ hw115_1)).trans hw115_1),((HB.out.cell (World.block_lt_of_cell? w _ hw115_2)).trans hw115_2),((HB.out.cell (World.block_lt_of_cell? w _ hw115_3)).trans hw115_3)⟩ (fun hHeld=>?_);clear hK K;refine nq_ (N:=some 23) ?_;refine pq_ (i:=8) (N:=some 24) (hc:=any_of HT_.out (by kernel_rfl)) (bm_ 33 511) ?_;refine pq_ (i:=9) (N:=some 25) (hc:=any_of HT_.out (by kernel_rfl)) (bm_ 33 1023) ?_;refine pq_ (i:=10) (N:=some 26) (hc:=any_of HT_.out (by kernel_rfl)) (bm_ 33 2047) ?_;refine pq_ (i:=11) (N:=some 27) (hc:=any_of HT_.out (by kernel_rfl)) (bm_ 33 4095) ?_;refine pq_ (i:=14) (N:=some 30) (hc:=any_of HT_.out (by kernel_rfl)) (bm_ 33 20479) ?_;refine tq_ (i:=12) (N:=some 28) (hc:=take_ofW HT_.out HW_.out (by kernel_rfl)) (bm_ 33 24575) hHeld ?_
            refine pq_ (i:=13) (N:=some 29) (hc:=any_of HT_.out (by kernel_rfl)) (bm_ 33 32767) ?_;refine tq_ (i:=15) (N:=some 31) (hc:=take_ofW HT_.out HW_.out (by kernel_rfl)) (bm_ 33 65535) hHeld ?_;refine pq_ (i:=16) (N:=some 32) (hc:=any_of HT_.out (by kernel_rfl)) (bm_ 33 131071) ?_;refine pq_ (i:=17) (N:=some 33) (hc:=any_of HT_.out (by kernel_rfl)) (bm_ 33 262143) ?_;refine tq_ (i:=18) (N:=some 34) (hc:=take_ofW HT_.out HW_.out (by kernel_rfl)) (bm_ 33 524287) hHeld ?_;refine pq_ (i:=19) (N:=some 35) (hc:=any_of HT_.out (by kernel_rfl)) (bm_ 33 1048575) ?_;refine pq_ (i:=20) (N:=some 36) (hc:=any_of HT_.out (by kernel_rfl)) (bm_ 33 2097151) ?_;refine pq_ (i:=21) (N:=some 37) (hc:=any_of HT_.out (by kernel_rfl)) (bm_ 33 4194303) ?_;refine pq_ (i:=22) (N:=some 38) (hc:=any_of HT_.out (by kernel_rfl)) (bm_ 33 8388607) ?_;refine pq_ (i:=23) (N:=some 39) (hc:=any_of HT_.out (by kernel_rfl)) (bm_ 33 16777215) ?_;refine pq_ (i:=26) (N:=some 42) (hc:=any_of HT_.out (by kernel_rfl)) (bm_ 33 83886079) ?_
            refine pq_ (i:=27) (N:=some 43) (hc:=any_of HT_.out (by kernel_rfl)) (bm_ 33 218103807) ?_;refine pq_ (i:=28) (N:=some 44) (hc:=any_of HT_.out (by kernel_rfl)) (bm_ 33 486539263) ?_;refine tq_ (i:=24) (N:=some 40) (hc:=take_ofW HT_.out HW_.out (by kernel_rfl)) (bm_ 33 503316479) hHeld ?_;refine pq_ (i:=25) (N:=some 41) (hc:=any_of HT_.out (by kernel_rfl)) (bm_ 33 536870911) ?_;refine tq_ (i:=29) (N:=some 45) (hc:=take_ofW HT_.out HW_.out (by kernel_rfl)) (bm_ 33 1073741823) hHeld ?_;refine pq_ (i:=30) (N:=some 46) (hc:=any_of HT_.out (by kernel_rfl)) (bm_ 33 2147483647) ?_;refine pq_ (i:=31) (N:=some 47) (hc:=any_of HT_.out (by kernel_rfl)) (bm_ 33 4294967295) ?_;refine pq_ (i:=32) (N:=some 48) (hc:=any_of HT_.out (by kernel_rfl)) (bm_ 33 8589934591) ?_;refine done_ (done_of HT_.out (by kernel_rfl)) ?_;(try go_wp2)
            go_meet
            (case rel=>exact⟨_,(((((rd_T48 l0 x11_1).f0).length:Int) != (((rd_T48 l0 0).f0).length:Int))),rs_,H',⟨by have:=HK1.out;first|omega|exact Nat.le_refl _⟩,⟨pK_ BK112.out⟩,⟨bs1_ GE112.out⟩⟩)
           (· exact nx_ c15 H)
          ·
           (rw[if_neg c14] at H);have c14b0:((((rd_T48 l0 x11_1).f0).length:Int) == (((rd_T57 ((rd_T48 l0 x11_1).f2) 0).f0).size:Int))=false:=beq_eq_false_iff_ne.mpr c14;have c14b1:((((rd_T48 l0 x11_1).f0).length:Int) != (((rd_T57 ((rd_T48 l0 x11_1).f2) 0).f0).size:Int))=true:=bne_iff_ne.mpr c14;(have c14b2:(((rd_T48 l0 x11_1).f0).length == ((rd_T57 ((rd_T48 l0 x11_1).f2) 0).f0).size)=false:=by first|simpa using c14|(simp at c14 ⊢;omega));have H':=Aside0.mk H;clear H;(try go_wp2);have n0_:Aside0 (((((w6.setCell ⟨gb112,0,none⟩ (.slice A111_0 ((rd_T48 l0 x11_1).f0).length c111_0)).setCell ⟨gb112,1,none⟩ (.int .i64 ((rd_T48 l0 x11_1).f1.f0))).setCell ⟨gb112,2,none⟩ (.int .i64 ((rd_T48 l0 x11_1).f1.f1))).setCell ⟨gb112,3,none⟩ (.slice A111_3 ((rd_T48 l0 x11_1).f2).length c111_3)).heap[gb112]? = some (.cells #[.slice A111_0 ((rd_T48 l0 x11_1).f0).length c111_0, .int .i64 ((rd_T48 l0 x11_1).f1.f0), .int .i64 ((rd_T48 l0 x11_1).f1.f1), .slice A111_3 ((rd_T48 l0 x11_1).f2).length c111_3] 48 (0,0))):=⟨by(with_reducible repeat(first|refine blk_drewN ?_ _|refine blk_drew ?_|refine blk_alloc ?_ _));refine blk_put (cs:=#[.slice A111_0 ((rd_T48 l0 x11_1).f0).length c111_0, .int .i64 ((rd_T48 l0 x11_1).f1.f0), .int .i64 ((rd_T48 l0 x11_1).f1.f1), .slice none 0 0]) ?_ 3 _ rfl;(with_reducible repeat(first|refine blk_drewN ?_ _|refine blk_drew ?_|refine blk_alloc ?_ _));refine blk_put (cs:=#[.slice A111_0 ((rd_T48 l0 x11_1).f0).length c111_0, .int .i64 ((rd_T48 l0 x11_1).f1.f0), .int .i64 0, .slice none 0 0]) ?_ 2 _ rfl;(with_reducible repeat(first|refine blk_drewN ?_ _|refine blk_drew ?_|refine blk_alloc ?_ _));refine blk_put (cs:=#[.slice A111_0 ((rd_T48 l0 x11_1).f0).length c111_0, .int .i64 0, .int .i64 0, .slice none 0 0]) ?_ 1 _ rfl;(with_reducible repeat(first|refine blk_drewN ?_ _|refine blk_drew ?_|refine blk_alloc ?_ _));refine blk_put (cs:=#[.slice none 0 0, .int .i64 0, .int .i64 0, .slice none 0 0]) ?_ 0 _ rfl;(with_reducible repeat(first|refine blk_drewN ?_ _|refine blk_drew ?_|refine blk_alloc ?_ _));exact BK112.out⟩;have n1_:Aside0 (Below w.heap.size w ((((w6.setCell ⟨gb112,0,none⟩ (.slice A111_0 ((rd_T48 l0 x11_1).f0).length c111_0)).setCell ⟨gb112,1,none⟩ (.int .i64 ((rd_T48 l0 x11_1).f1.f0))).setCell ⟨gb112,2,none⟩ (.int .i64 ((rd_T48 l0 x11_1).f1.f1))).setCell ⟨gb112,3,none⟩ (.slice A111_3 ((rd_T48 l0 x11_1).f2).length c111_3))):=⟨bs1_ GE112.out⟩;(try clear BK112);(try clear HB);(generalize ((((w6.setCell ⟨gb112,0,none⟩ (.slice A111_0 ((rd_T48 l0 x11_1).f0).length c111_0)).setCell ⟨gb112,1,none⟩ (.int .i64 ((rd_T48 l0 x11_1).f1.f0))).setCell ⟨gb112,2,none⟩ (.int .i64 ((rd_T48 l0 x11_1).f1.f1))).setCell ⟨gb112,3,none⟩ (.slice A111_3 ((rd_T48 l0 x11_1).f2).length c111_3))=w19 at n0_ n1_ ⊢);have BK112:=n0_;have HB:=n1_;clear n0_ n1_;replace BK112:=Aside0.mk (blk_drew BK112.out);replace HB:=Aside0.mk (below_drew1 HB.out);have p114:0≤(0:Int):=(by omega);have q114:0 < (((rd_T48 l0 x11_1).f2).length:Int):=dt_;obtain⟨ad114,e114,hx114_0,hx114_1⟩:=at_T57 HR111_3.out 0 p114 q114;have hw114_1:=hx114_1;(try rw[show ((0:Int)).toNat=0 from rfl] at hw114_1);(try rw[show 0 * 2=0 from rfl] at hw114_1);(try rw[Addr.add_zero'] at hw114_1);have hw114_0:=hx114_0;(try rw[show ((0:Int)).toNat=0 from rfl] at hw114_0);(try rw[show 0 * 2=0 from rfl] at hw114_0);(try rw[Addr.add_zero'] at hw114_0);cases e114;have qi114:(0 < ((rd_T48 l0 x11_1).f2).length)=True:=eq_true (by omega);(try rw[show ((0:Int)).toNat=0 from rfl] at hx114_0);(try rw[show 0 * 2=0 from rfl] at hx114_0);(try rw[Addr.add_zero'] at hx114_0);(try rw[show ((0:Int)).toNat=0 from rfl] at hx114_1);(try rw[show 0 * 2=0 from rfl] at hx114_1);(try rw[Addr.add_zero'] at hx114_1);replace hx114_0:=(HB.out.cell (World.block_lt_of_cell? w _ hx114_0)).trans hx114_0;replace hx114_1:=(HB.out.cell (World.block_lt_of_cell? w _ hx114_1)).trans hx114_1;replace p114:=eq_true p114;replace q114:=eq_true q114;(refine start_ (n:=33) (S:=fun w'=>w'.cell? ⟨gb112,0,none⟩=some (.slice A111_0 ((rd_T48 l0 x11_1).f0).length c111_0)∧w'.cell? ⟨gb112,1,none⟩=some (.int .i64 ((rd_T48 l0 x11_1).f1.f0))∧w'.cell? ⟨gb112,2,none⟩=some (.int .i64 ((rd_T48 l0 x11_1).f1.f1))∧w'.cell? ⟨gb112,3,none⟩=some (.slice (some ad114) ((rd_T48 l0 x11_1).f2).length c111_3)∧w'.cell? ad114=some (.string ((rd_T57 ((rd_T48 l0 x11_1).f2) 0).f0))∧w'.cell? ⟨ad114.block,ad114.off+1,none⟩=some (.string ((rd_T57 ((rd_T48 l0 x11_1).f2) 0).f1))) (ds:=[]) (bm_ 33 0) (by kernel_rfl) rfl rfl ⟨(blk_cell BK112.out 0).trans rfl,(blk_cell BK112.out 1).trans rfl,(blk_cell BK112.out 2).trans rfl,(blk_cell BK112.out 3).trans rfl,((HB.out.cell (World.block_lt_of_cell? w _ hw114_0)).trans hw114_0),((HB.out.cell (World.block_lt_of_cell? w _ hw114_1)).trans hw114_1)⟩ (fun hHeld=>?_);refine with_tabW patch_May.tab4 patch_May.bits4 (fun HT_ HW_=>?_));(generalize w19.drew=w20 at BK112 HB hx114_0 hx114_1 hHeld ⊢);refine pure_ (i:=0) (N:=some 16) (v:=?_) (a':=?_) (bm_ 33 1) rfl rfl (any_of HT_.out (by kernel_rfl)) (fun _ _ _ h=>h) (Or.inl ⟨by rfl,?_⟩) ?_ ?_;rotate_left;(· intro w';go_simp;(with_reducible rfl))
           rotate_left;(· simp only[Act.put,List.setIfInBounds_toArray,List.set_cons_zero,List.set_cons_succ,i64_w,i32_w];rfl);refine tq_ (i:=1) (N:=some 17) (hc:=take_ofW HT_.out HW_.out (by kernel_rfl)) (bm_ 33 3) hHeld ?_;refine pq_ (i:=2) (N:=some 18) (hc:=any_of HT_.out (by kernel_rfl)) (bm_ 33 7) ?_;refine pq_ (i:=3) (N:=some 19) (hc:=any_of HT_.out (by kernel_rfl)) (bm_ 33 15) ?_;refine pq_ (i:=4) (N:=some 20) (hc:=any_of HT_.out (by kernel_rfl)) (bm_ 33 31) ?_;refine pq_ (i:=5) (N:=some 21) (hc:=any_of HT_.out (by kernel_rfl)) (bm_ 33 63) ?_;refine tq_ (i:=6) (N:=some 22) (hc:=take_ofW HT_.out HW_.out (by kernel_rfl)) (bm_ 33 127) hHeld ?_;refine one_ (i:=7) (N:=some 23) (bm_ 33 255) rfl rfl (one_of HT_.out (by kernel_rfl)) (by decide) (fun K hK=>?_);refine goes_ Tryd.func35 (by kernel_rfl) rfl #[.slice (some ad114) ((rd_T48 l0 x11_1).f2).length c111_3] (by rfl) rfl rfl am_ ?_;(with_reducible refine(hunk_May.calls k1 _ _ ((rd_T48 l0 x11_1).f2) true _ ?side1 ?side2 A11.out).mono ?_);(case side1=>repeat(first|exact(Kd.C_below HR111_3.out HB.out)|(with_reducible refine Kd.C_alloc ?_ _)|(with_reducible refine Kd.C_drewN ?_ _)|(with_reducible refine Kd.C_drew ?_)));(case side2=>exact HC111_3.out);rintro e w21 ⟨rfl,hb⟩;refine⟨_,rfl,?_⟩;replace BK112:=Aside0.mk (blk_below (g:=gb112) (o := .cells #[.slice A111_0 ((rd_T48 l0 x11_1).f0).length c111_0, .int .i64 ((rd_T48 l0 x11_1).f1.f0), .int .i64 ((rd_T48 l0 x11_1).f1.f1), .slice (some ad114) ((rd_T48 l0 x11_1).f2).length c111_3] 48 (0,0)) (pK_ BK112.out) hb);replace HB:=Aside0.mk (below_step (bs1_ GE112.out) hb);(try clear hb);(try clear hb2);(try clear hk);(try clear hi);refine hK.out _ _ ⟨(blk_cell BK112.out 0).trans rfl,(blk_cell BK112.out 1).trans rfl,(blk_cell BK112.out 2).trans rfl,(blk_cell BK112.out 3).trans rfl,((HB.out.cell (World.block_lt_of_cell? w _ hw114_0)).trans hw114_0),((HB.out.cell (World.block_lt_of_cell? w _ hw114_1)).trans hw114_1)⟩ (fun hHeld=>?_);clear hK K;refine nq_ (N:=some 23) ?_
           refine pq_ (i:=8) (N:=some 24) (hc:=any_of HT_.out (by kernel_rfl)) (bm_ 33 511) ?_;refine pq_ (i:=9) (N:=some 25) (hc:=any_of HT_.out (by kernel_rfl)) (bm_ 33 1023) ?_;refine pq_ (i:=10) (N:=some 26) (hc:=any_of HT_.out (by kernel_rfl)) (bm_ 33 2047) ?_;refine pq_ (i:=11) (N:=some 27) (hc:=any_of HT_.out (by kernel_rfl)) (bm_ 33 4095) ?_;refine pq_ (i:=14) (N:=some 30) (hc:=any_of HT_.out (by kernel_rfl)) (bm_ 33 20479) ?_;refine tq_ (i:=12) (N:=some 28) (hc:=take_ofW HT_.out HW_.out (by kernel_rfl)) (bm_ 33 24575) hHeld ?_;refine pq_ (i:=13) (N:=some 29) (hc:=any_of HT_.out (by kernel_rfl)) (bm_ 33 32767) ?_;refine tq_ (i:=15) (N:=some 31) (hc:=take_ofW HT_.out HW_.out (by kernel_rfl)) (bm_ 33 65535) hHeld ?_;refine pq_ (i:=16) (N:=some 32) (hc:=any_of HT_.out (by kernel_rfl)) (bm_ 33 131071) ?_;refine pq_ (i:=17) (N:=some 33) (hc:=any_of HT_.out (by kernel_rfl)) (bm_ 33 262143) ?_;refine take_ (i:=18) (N:=some 34) (v:=?_) (a':=?_) (bm_ 33 524287) rfl rfl (take_ofW HT_.out HW_.out (by kernel_rfl)) (fun _ _ _ h=>h) (Or.inl ⟨by rfl,?_⟩) hHeld ?_ ?_;rotate_left;(· rintro w' ⟨s0,s1,s2,s3,s4,s5⟩;go_simp;(with_reducible rfl));rotate_left
           (· simp only[Act.put,List.setIfInBounds_toArray,List.set_cons_zero,List.set_cons_succ,i64_w,i32_w];rfl);refine pq_ (i:=19) (N:=some 35) (hc:=any_of HT_.out (by kernel_rfl)) (bm_ 33 1048575) ?_;refine pq_ (i:=20) (N:=some 36) (hc:=any_of HT_.out (by kernel_rfl)) (bm_ 33 2097151) ?_;refine pq_ (i:=21) (N:=some 37) (hc:=any_of HT_.out (by kernel_rfl)) (bm_ 33 4194303) ?_;refine pq_ (i:=22) (N:=some 38) (hc:=any_of HT_.out (by kernel_rfl)) (bm_ 33 8388607) ?_;refine pu_ (i:=23) (N:=some 39) (hc:=any_of HT_.out (by kernel_rfl)) (bm_ 33 16777215) ?_;refine pu_ (i:=24) (N:=some 40) (hc:=any_of HT_.out (by kernel_rfl)) (bm_ 33 33554431) ?_;refine pu_ (i:=25) (N:=some 41) (hc:=any_of HT_.out (by kernel_rfl)) (bm_ 33 67108863) ?_;refine pu_ (i:=26) (N:=some 42) (hc:=any_of HT_.out (by kernel_rfl)) (bm_ 33 134217727) ?_;refine pu_ (i:=27) (N:=some 43) (hc:=any_of HT_.out (by kernel_rfl)) (bm_ 33 268435455) ?_;refine pu_ (i:=28) (N:=some 44) (hc:=any_of HT_.out (by kernel_rfl)) (bm_ 33 536870911) ?_;refine pu_ (i:=29) (N:=some 45) (hc:=any_of HT_.out (by kernel_rfl)) (bm_ 33 1073741823) ?_;refine pure_ (i:=30) (N:=some 46) (v:=undef) (a':=?_) (bm_ 33 2147483647) rfl rfl (any_of HT_.out (by kernel_rfl)) (fun _ _ _ h=>h) (Or.inr ⟨by rfl,rfl⟩) ?_ ?_;rotate_left
           (· simp only[Act.put,List.setIfInBounds_toArray,List.set_cons_zero,List.set_cons_succ,i64_w,i32_w];rfl);refine pu_ (i:=31) (N:=some 47) (hc:=any_of HT_.out (by kernel_rfl)) (bm_ 33 4294967295) ?_;refine pq_ (i:=32) (N:=some 48) (hc:=any_of HT_.out (by kernel_rfl)) (bm_ 33 8589934591) ?_;refine done_ (done_of HT_.out (by kernel_rfl)) ?_;(try go_wp2)
           go_meet
           (case rel=>exact⟨_,(true),rs_,H',⟨by have:=HK1.out;first|omega|exact Nat.le_refl _⟩,⟨pK_ BK112.out⟩,⟨bs1_ GE112.out⟩⟩)
         (· exact nx_ c13 H)
        ·
         replace c12:=Bool.eq_false_iff.mpr c12;subst c12;have H1:=H;(rw[if_neg (show ¬ (false=true) by decide)] at H1);clear H;have H:=H1;clear H1;have H':=Aside0.mk H;clear H;(try go_wp2);have n0_:Aside0 (((((w6.setCell ⟨gb112,0,none⟩ (.slice A111_0 ((rd_T48 l0 x11_1).f0).length c111_0)).setCell ⟨gb112,1,none⟩ (.int .i64 ((rd_T48 l0 x11_1).f1.f0))).setCell ⟨gb112,2,none⟩ (.int .i64 ((rd_T48 l0 x11_1).f1.f1))).setCell ⟨gb112,3,none⟩ (.slice A111_3 ((rd_T48 l0 x11_1).f2).length c111_3)).heap[gb112]? = some (.cells #[.slice A111_0 ((rd_T48 l0 x11_1).f0).length c111_0, .int .i64 ((rd_T48 l0 x11_1).f1.f0), .int .i64 ((rd_T48 l0 x11_1).f1.f1), .slice A111_3 ((rd_T48 l0 x11_1).f2).length c111_3] 48 (0,0))):=⟨by(with_reducible repeat(first|refine blk_drewN ?_ _|refine blk_drew ?_|refine blk_alloc ?_ _));refine blk_put (cs:=#[.slice A111_0 ((rd_T48 l0 x11_1).f0).length c111_0, .int .i64 ((rd_T48 l0 x11_1).f1.f0), .int .i64 ((rd_T48 l0 x11_1).f1.f1), .slice none 0 0]) ?_ 3 _ rfl;(with_reducible repeat(first|refine blk_drewN ?_ _|refine blk_drew ?_|refine blk_alloc ?_ _));refine blk_put (cs:=#[.slice A111_0 ((rd_T48 l0 x11_1).f0).length c111_0, .int .i64 ((rd_T48 l0 x11_1).f1.f0), .int .i64 0, .slice none 0 0]) ?_ 2 _ rfl;(with_reducible repeat(first|refine blk_drewN ?_ _|refine blk_drew ?_|refine blk_alloc ?_ _));refine blk_put (cs:=#[.slice A111_0 ((rd_T48 l0 x11_1).f0).length c111_0, .int .i64 0, .int .i64 0, .slice none 0 0]) ?_ 1 _ rfl;(with_reducible repeat(first|refine blk_drewN ?_ _|refine blk_drew ?_|refine blk_alloc ?_ _));refine blk_put (cs:=#[.slice none 0 0, .int .i64 0, .int .i64 0, .slice none 0 0]) ?_ 0 _ rfl;(with_reducible repeat(first|refine blk_drewN ?_ _|refine blk_drew ?_|refine blk_alloc ?_ _));exact BK112.out⟩;have n1_:Aside0 (Below w.heap.size w ((((w6.setCell ⟨gb112,0,none⟩ (.slice A111_0 ((rd_T48 l0 x11_1).f0).length c111_0)).setCell ⟨gb112,1,none⟩ (.int .i64 ((rd_T48 l0 x11_1).f1.f0))).setCell ⟨gb112,2,none⟩ (.int .i64 ((rd_T48 l0 x11_1).f1.f1))).setCell ⟨gb112,3,none⟩ (.slice A111_3 ((rd_T48 l0 x11_1).f2).length c111_3))):=⟨bs1_ GE112.out⟩;(try clear BK112);(try clear HB);(generalize ((((w6.setCell ⟨gb112,0,none⟩ (.slice A111_0 ((rd_T48 l0 x11_1).f0).length c111_0)).setCell ⟨gb112,1,none⟩ (.int .i64 ((rd_T48 l0 x11_1).f1.f0))).setCell ⟨gb112,2,none⟩ (.int .i64 ((rd_T48 l0 x11_1).f1.f1))).setCell ⟨gb112,3,none⟩ (.slice A111_3 ((rd_T48 l0 x11_1).f2).length c111_3))=w22 at n0_ n1_ ⊢);have BK112:=n0_;have HB:=n1_;clear n0_ n1_;replace BK112:=Aside0.mk (blk_drew BK112.out);replace HB:=Aside0.mk (below_drew1 HB.out);(refine start_ (n:=33) (S:=fun w'=>w'.cell? ⟨gb112,0,none⟩=some (.slice A111_0 ((rd_T48 l0 x11_1).f0).length c111_0)∧w'.cell? ⟨gb112,1,none⟩=some (.int .i64 ((rd_T48 l0 x11_1).f1.f0))∧w'.cell? ⟨gb112,2,none⟩=some (.int .i64 ((rd_T48 l0 x11_1).f1.f1))∧w'.cell? ⟨gb112,3,none⟩=some (.slice A111_3 ((rd_T48 l0 x11_1).f2).length c111_3)) (ds:=[]) (bm_ 33 0) (by kernel_rfl) rfl rfl ⟨(blk_cell BK112.out 0).trans rfl,(blk_cell BK112.out 1).trans rfl,(blk_cell BK112.out 2).trans rfl,(blk_cell BK112.out 3).trans rfl⟩ (fun hHeld=>?_);refine with_tabW patch_May.tab4 patch_May.bits4 (fun HT_ HW_=>?_));(generalize w22.drew=w23 at BK112 HB hHeld ⊢);refine pq_ (i:=0) (N:=some 16) (hc:=any_of HT_.out (by kernel_rfl)) (bm_ 33 1) ?_;refine tq_ (i:=1) (N:=some 17) (hc:=take_ofW HT_.out HW_.out (by kernel_rfl)) (bm_ 33 3) hHeld ?_;refine pq_ (i:=2) (N:=some 18) (hc:=any_of HT_.out (by kernel_rfl)) (bm_ 33 7) ?_;refine pq_ (i:=3) (N:=some 19) (hc:=any_of HT_.out (by kernel_rfl)) (bm_ 33 15) ?_
         refine pq_ (i:=4) (N:=some 20) (hc:=any_of HT_.out (by kernel_rfl)) (bm_ 33 31) ?_;refine pq_ (i:=5) (N:=some 21) (hc:=any_of HT_.out (by kernel_rfl)) (bm_ 33 63) ?_;refine tq_ (i:=6) (N:=some 22) (hc:=take_ofW HT_.out HW_.out (by kernel_rfl)) (bm_ 33 127) hHeld ?_;refine one_ (i:=7) (N:=some 23) (bm_ 33 255) rfl rfl (one_of HT_.out (by kernel_rfl)) (by decide) (fun K hK=>?_);refine goes_ Tryd.func35 (by kernel_rfl) rfl #[.slice A111_3 ((rd_T48 l0 x11_1).f2).length c111_3] (by rfl) rfl rfl am_ ?_;(with_reducible refine(hunk_May.calls k1 _ _ ((rd_T48 l0 x11_1).f2) false _ ?side1 ?side2 A11.out).mono ?_);(case side1=>repeat(first|exact(Kd.C_below HR111_3.out HB.out)|(with_reducible refine Kd.C_alloc ?_ _)|(with_reducible refine Kd.C_drewN ?_ _)|(with_reducible refine Kd.C_drew ?_)));(case side2=>exact HC111_3.out);rintro e w24 ⟨rfl,hb⟩;refine⟨_,rfl,?_⟩;replace BK112:=Aside0.mk (blk_below (g:=gb112) (o := .cells #[.slice A111_0 ((rd_T48 l0 x11_1).f0).length c111_0, .int .i64 ((rd_T48 l0 x11_1).f1.f0), .int .i64 ((rd_T48 l0 x11_1).f1.f1), .slice A111_3 ((rd_T48 l0 x11_1).f2).length c111_3] 48 (0,0)) (pK_ BK112.out) hb);replace HB:=Aside0.mk (below_step (bs1_ GE112.out) hb);(try clear hb);(try clear hb2);(try clear hk);(try clear hi);refine hK.out _ _ ⟨(blk_cell BK112.out 0).trans rfl,(blk_cell BK112.out 1).trans rfl,(blk_cell BK112.out 2).trans rfl,(blk_cell BK112.out 3).trans rfl⟩ (fun hHeld=>?_);clear hK K;refine nq_ (N:=some 23) ?_;refine pq_ (i:=8) (N:=some 24) (hc:=any_of HT_.out (by kernel_rfl)) (bm_ 33 511) ?_;refine pq_ (i:=9) (N:=some 25) (hc:=any_of HT_.out (by kernel_rfl)) (bm_ 33 1023) ?_;refine pq_ (i:=10) (N:=some 26) (hc:=any_of HT_.out (by kernel_rfl)) (bm_ 33 2047) ?_;refine pu_ (i:=11) (N:=some 27) (hc:=any_of HT_.out (by kernel_rfl)) (bm_ 33 4095) ?_
         refine pu_ (i:=12) (N:=some 28) (hc:=any_of HT_.out (by kernel_rfl)) (bm_ 33 8191) ?_;refine pu_ (i:=13) (N:=some 29) (hc:=any_of HT_.out (by kernel_rfl)) (bm_ 33 16383) ?_;refine pu_ (i:=14) (N:=some 30) (hc:=any_of HT_.out (by kernel_rfl)) (bm_ 33 32767) ?_;refine pu_ (i:=15) (N:=some 31) (hc:=any_of HT_.out (by kernel_rfl)) (bm_ 33 65535) ?_;refine pu_ (i:=16) (N:=some 32) (hc:=any_of HT_.out (by kernel_rfl)) (bm_ 33 131071) ?_;refine pu_ (i:=17) (N:=some 33) (hc:=any_of HT_.out (by kernel_rfl)) (bm_ 33 262143) ?_;refine pu_ (i:=18) (N:=some 34) (hc:=any_of HT_.out (by kernel_rfl)) (bm_ 33 524287) ?_;refine pu_ (i:=19) (N:=some 35) (hc:=any_of HT_.out (by kernel_rfl)) (bm_ 33 1048575) ?_;refine pu_ (i:=20) (N:=some 36) (hc:=any_of HT_.out (by kernel_rfl)) (bm_ 33 2097151) ?_;refine pq_ (i:=21) (N:=some 37) (hc:=any_of HT_.out (by kernel_rfl)) (bm_ 33 4194303) ?_;refine pq_ (i:=22) (N:=some 38) (hc:=any_of HT_.out (by kernel_rfl)) (bm_ 33 8388607) ?_;refine pu_ (i:=23) (N:=some 39) (hc:=any_of HT_.out (by kernel_rfl)) (bm_ 33 16777215) ?_
         refine pu_ (i:=24) (N:=some 40) (hc:=any_of HT_.out (by kernel_rfl)) (bm_ 33 33554431) ?_;refine pu_ (i:=25) (N:=some 41) (hc:=any_of HT_.out (by kernel_rfl)) (bm_ 33 67108863) ?_;refine pu_ (i:=26) (N:=some 42) (hc:=any_of HT_.out (by kernel_rfl)) (bm_ 33 134217727) ?_;refine pu_ (i:=27) (N:=some 43) (hc:=any_of HT_.out (by kernel_rfl)) (bm_ 33 268435455) ?_;refine pu_ (i:=28) (N:=some 44) (hc:=any_of HT_.out (by kernel_rfl)) (bm_ 33 536870911) ?_;refine pu_ (i:=29) (N:=some 45) (hc:=any_of HT_.out (by kernel_rfl)) (bm_ 33 1073741823) ?_;refine pu_ (i:=30) (N:=some 46) (hc:=any_of HT_.out (by kernel_rfl)) (bm_ 33 2147483647) ?_;refine pu_ (i:=31) (N:=some 47) (hc:=any_of HT_.out (by kernel_rfl)) (bm_ 33 4294967295) ?_;refine pq_ (i:=32) (N:=some 48) (hc:=any_of HT_.out (by kernel_rfl)) (bm_ 33 8589934591) ?_;refine done_ (done_of HT_.out (by kernel_rfl)) ?_;(try go_wp2)
         go_meet
         (case rel=>exact⟨_,(true),rs_,H',⟨by have:=HK1.out;first|omega|exact Nat.le_refl _⟩,⟨pK_ BK112.out⟩,⟨bs1_ GE112.out⟩⟩)
      case rest =>
       clear HC5;(try clear c1);(try clear p1);(try clear q1);(try clear hx1);(try clear qi1);(try clear p2);(try clear c3);(try clear c11);(try clear p11);(try clear q11);(try clear hx11);(try clear qi11);(try clear c12);(try clear c13);(try clear c14);(try clear c14b0);(try clear c14b1);(try clear c14b2);(try clear c15);(try clear hx114_0);(try clear hx114_1);(try clear p114);(try clear q114);obtain⟨kq,x48_4,rfl,HA,HJ4,BK112,HB⟩:=hcut
       cases kq with
       | zero=>exact absurd HA.out (by simp[patch_May.j1])
       | succ kj4 =>
        have H:=HA.out;clear HA;(simp only[patch_May.j1] at H)
        by_cases c25:x48_4=true
        (· subst c25;have H1:=H;(rw[if_pos rfl] at H1);clear H;have H:=H1;clear H1;obtain rfl:=Option.some.inj H;go_wp2;go_ret;exact⟨by first|rfl|(simp[errW_none,errW_some] <;> rfl)|(simp[*,errW_none,errW_some] <;> rfl),by repeat(first|(with_reducible first|exact HB.out|apply below_alloc|apply pw_below_drewN|apply below_drew1|refine below_set ?_ GE112.out)|exact HB.out)⟩)
        ·
         replace c25:=Bool.eq_false_iff.mpr c25;subst c25;have H1:=H;(rw[if_neg (show ¬ (false=true) by decide)] at H1);clear H;have H:=H1;clear H1;obtain⟨ji26,hji26⟩ : ∃ j_:Int,(wrap64 ((((rd_T48 l0 x11_1).f0).length:Int)+1))=j_:=⟨_,rfl⟩;(first|rw[hji26] at H|simp only[hji26] at H);have hji26w:(IntKind.i64.wrap ((((rd_T48 l0 x11_1).f0).length:Int)+1))=ji26:=(i64_w _).trans hji26
         by_cases c27:0≤(ji26)
         ·
          (rw[if_pos c27] at H);have c27b0:=eq_true c27;have c27b1:decide (0≤(ji26))=true:=decide_eq_true c27;clear c27
          by_cases c28:(ji26:Int).toNat≤17592186044416
          ·
           (rw[if_pos c28] at H);have c28b0:=eq_true c28;have c28b1:decide ((ji26:Int).toNat≤17592186044416)=true:=decide_eq_true c28;clear c28;obtain⟨y116,hy116⟩ : ∃ y_:List (S45),y_=(List.replicate (ji26:Int).toNat z45):=⟨_,rfl⟩;((try rw[Option.bind_some] at H);rw[← hy116] at H);have Ny116:=Aside0.mk hy116;clear hy116;have HC29:=Aside0.mk H;clear H;have hcz30_0:wc.cell? ⟨gb112,0,none⟩=some (.slice A111_0 ((rd_T48 l0 x11_1).f0).length c111_0):=(blk_cell BK112.out 0).trans rfl;have hcz30_1:wc.cell? ⟨gb112,1,none⟩=some (.int .i64 ((rd_T48 l0 x11_1).f1.f0)):=(blk_cell BK112.out 1).trans rfl;have hcz30_2:wc.cell? ⟨gb112,2,none⟩=some (.int .i64 ((rd_T48 l0 x11_1).f1.f1)):=(blk_cell BK112.out 2).trans rfl;have hcz30_3:wc.cell? ⟨gb112,3,none⟩=some (.slice A111_3 ((rd_T48 l0 x11_1).f2).length c111_3):=(blk_cell BK112.out 3).trans rfl;have hfz30_0:=blk_frozen BK112.out 0;have hfz30_1:=blk_frozen BK112.out 1;have hfz30_2:=blk_frozen BK112.out 2;have hfz30_3:=blk_frozen BK112.out 3
           go_upto_if 55 with (first|((with_reducible refine gate_dst (N:=53) rfl ?_);(try(refine gate_guard (by rfl) ?_;dsimp only));refine Kd.R_make k45 _ 45 rfl (N:=53) rfl 46 _ _ rfl ji26 rfl rfl Tryd.underlying46 (.agg #[(.int .i64 0),(.int .i64 0)]) 16 info45 rfl (by decide) (by omega) z45 (ok:=fun _=>True) (okp:=fun _=>True) (k45_mkM _ _ _ z45 ) (fun _ hk=>hk) trivial (dt_) (Nat.le_trans (Nat.mul_le_mul_right _ (dt_:ji26.toNat≤17592186044416)) (by omega)) (Below.refl _ _) (Nat.le_refl _) ?_;intro v117 w31 ho32 hb hg_ hnew_;clear hg_ hnew_;(first|rw[← Ny116.out] at ho32|(simp only[Int.reduceToNat] at ho32;rw[← Ny116.out] at ho32));have HO118:=Aside0.mk (Kd.R_lower ho32 (below_size (bs1_ GE112.out)));replace BK112:=Aside0.mk (blk_below (g:=gb112) (o := .cells #[.slice A111_0 ((rd_T48 l0 x11_1).f0).length c111_0, .int .i64 ((rd_T48 l0 x11_1).f1.f0), .int .i64 ((rd_T48 l0 x11_1).f1.f1), .slice A111_3 ((rd_T48 l0 x11_1).f2).length c111_3] 48 (0,0)) (pK_ BK112.out) hb);replace HB:=Aside0.mk (below_step (bs1_ GE112.out) hb);clear hb ho32))
           (try simp only[Act.put,List.setIfInBounds_toArray,List.set_cons_zero,List.set_cons_succ])
           go_cut [5] (fun v5 wc => ∃ (kq:Nat) (x5_28:List (S45)),Aside0 (patch_May.j2 kq l0 x5_28 l0 (l0.length:Int) x11_1 ((rd_T48 l0 x11_1).f0) ((rd_T48 l0 x11_1).f1.f0) ((rd_T48 l0 x11_1).f1.f1) ((rd_T48 l0 x11_1).f2)=some r)∧Aside0 (kq≤kj4)∧Aside0 (Kd.R k45 45 wc w.heap.size (fun _=>True) v5 x5_28)∧Aside0 (wc.heap[gb112]? = some (.cells #[(.slice A111_0 ((rd_T48 l0 x11_1).f0).length c111_0), .int .i64 ((rd_T48 l0 x11_1).f1.f0), .int .i64 ((rd_T48 l0 x11_1).f1.f1),(.slice A111_3 ((rd_T48 l0 x11_1).f2).length c111_3)] 48 (0,0)))∧Aside0 (Below w.heap.size w wc))
           case first =>
            have H:=HC29.out;clear HC29
            by_cases c33:x11_1 > 0
            ·
             (rw[if_pos c33] at H);have c33b0:decide (0 < x11_1)=true:=decide_eq_true c33;clear c33;(first|rw[c33b0]|(simp only[i64_w,i32_w];rw[c33b0])|skip);obtain⟨ji34,hji34⟩ : ∃ j_:Int,(wrap64 (x11_1 - 1))=j_:=⟨_,rfl⟩;(first|rw[hji34] at H|simp only[hji34] at H);have hji34w:(IntKind.i64.wrap (x11_1 - 1))=ji34:=(i64_w _).trans hji34
             by_cases c35:0≤(ji34)
             ·
              (rw[if_pos c35] at H);have c35b0:decide (0≤(ji34))=true:=decide_eq_true c35;clear c35
              by_cases c36:(ji34) < (l0.length:Int)
              ·
               (rw[if_pos c36] at H);have c36b0:decide ((ji34) < (l0.length:Int))=true:=decide_eq_true c36;clear c36;replace H:=Option.bind_eq_some_iff.mp H;obtain⟨t120,A370,H⟩:=H;(try dsimp only at H);have A37:=Aside0.mk A370;clear A370;have H':=Aside0.mk H;clear H;have p119:0≤((ji34):Int):=dt_;have q119:(ji34) < (l0.length:Int):=dt_;obtain⟨ad119,A119_0,c119_0,A119_3,c119_3,e119,hx119_0,hx119_1,hx119_2,hx119_3,hl119_0,hi119_0,hl119_3,hi119_3⟩:=at_T48 HR0.out (ji34) p119 q119;obtain rfl:ad111=ad119:=(by injection e119);replace hx119_0:=(HB.out.cell (World.block_lt_of_cell? w _ hx119_0)).trans hx119_0;replace hx119_1:=(HB.out.cell (World.block_lt_of_cell? w _ hx119_1)).trans hx119_1;replace hx119_2:=(HB.out.cell (World.block_lt_of_cell? w _ hx119_2)).trans hx119_2;replace hx119_3:=(HB.out.cell (World.block_lt_of_cell? w _ hx119_3)).trans hx119_3;have HR119_0:=Aside0.mk hi119_0;have HC119_0:=Aside0.mk hl119_0;clear hi119_0 hl119_0;have HR119_3:=Aside0.mk hi119_3;have HC119_3:=Aside0.mk hl119_3;clear hi119_3 hl119_3;replace p119:=eq_true p119;replace q119:=eq_true q119;(go_wp2_with (first|((with_reducible refine gate_callee (f:=112) rfl ?_);refine goesL_ (some 61) rfl rfl Tryd.func112 (by kernel_rfl) rfl #[.agg #[.slice A119_0 ((rd_T48 l0 (ji34)).f0).length c119_0, .int .i64 ((rd_T48 l0 (ji34)).f1.f0), .int .i64 ((rd_T48 l0 (ji34)).f1.f1), .slice A119_3 ((rd_T48 l0 (ji34)).f2).length c119_3]] rfl (by(try simp only[List.map_toArray,List.map_cons,List.map_nil]);first|done|(simp only[hji34];rfl)|rfl|(simp only[List.length_drop,List.length_take];rfl)) ?_;(with_reducible refine(patch_spans.calls _ _ ((rd_T48 l0 (ji34)).f0) ((rd_T48 l0 (ji34)).f1.f0) ((rd_T48 l0 (ji34)).f1.f1) _ _ ((rd_T48 l0 (ji34)).f2) t120 _ ?side1 ?side2 ?side3 ?side4 A37.out).mono ?_);(case side1=>repeat(first|exact(Kd.C_below HR119_0.out HB.out)|(with_reducible refine Kd.C_alloc ?_ _)|(with_reducible refine Kd.C_drewN ?_ _)|(with_reducible refine Kd.C_drew ?_)));(case side2=>exact HC119_0.out);(case side3=>repeat(first|exact(Kd.C_below HR119_3.out HB.out)|(with_reducible refine Kd.C_alloc ?_ _)|(with_reducible refine Kd.C_drewN ?_ _)|(with_reducible refine Kd.C_drew ?_)));(case side4=>exact HC119_3.out);rintro e w38 ⟨v121,rfl,ho0,hb⟩;refine⟨_,rfl,?_⟩;have HO122:=Aside0.mk (Kd.R_lower (Kd.R_new' ho0 (Kd.R_lt (pR_ HO118.out))) (below_size (bs1_ GE112.out)));replace HO118:=Aside0.mk (Kd.R_elder' (pR_ HO118.out) (Kd.R_base ho0) hb);replace BK112:=Aside0.mk (blk_below (g:=gb112) (o := .cells #[.slice A111_0 ((rd_T48 l0 x11_1).f0).length c111_0, .int .i64 ((rd_T48 l0 x11_1).f1.f0), .int .i64 ((rd_T48 l0 x11_1).f1.f1), .slice A111_3 ((rd_T48 l0 x11_1).f2).length c111_3] 48 (0,0)) (pK_ BK112.out) hb);replace HB:=Aside0.mk (below_step (bs1_ GE112.out) hb);(try clear hb);(try clear hb2);(try clear hk);(try clear hi);(try clear ho0))))
               go_meet
               (case rel=>exact⟨_,(t120),H',⟨by have:=HK1.out;have:=HJ4.out;first|omega|exact Nat.le_refl _⟩,⟨Kd.R_mono (pRm_ HO122.out) (fun _ hk=>trivial)⟩,⟨pK_ BK112.out⟩,⟨bs1_ GE112.out⟩⟩)
              (· exact nx_ c36 H)
             (· exact nx_ c35 H)
            ·
             (rw[if_neg c33] at H);have c33b0:decide (0 < x11_1)=false:=decide_eq_false c33;clear c33;(first|rw[c33b0]|(simp only[i64_w,i32_w];rw[c33b0])|skip);have H':=Aside0.mk H;clear H;go_wp2
             go_meet
             (case rel=>exact⟨_,(y116),H',⟨by have:=HK1.out;have:=HJ4.out;first|omega|exact Nat.le_refl _⟩,⟨pR_ HO118.out⟩,⟨pK_ BK112.out⟩,⟨bs1_ GE112.out⟩⟩)
           case rest =>
            clear HC29;(try clear c1);(try clear p1);(try clear q1);(try clear hx1);(try clear qi1);(try clear c2);(try clear p2);(try clear c3);(try clear p6);(try clear c11);(try clear p11);(try clear q11);(try clear hx11);(try clear qi11);(try clear c12);(try clear c13);(try clear c14);(try clear c14b0);(try clear c14b1);(try clear c14b2);(try clear c15);(try clear c25);(try clear c27);(try clear c27b0);(try clear c27b1);(try clear c28);(try clear c28b0);(try clear c28b1);(try clear c33);(try clear c33b0);(try clear c35);(try clear c35b0);(try clear c36);(try clear c36b0);(try clear hcz30_0);(try clear hcz30_1);(try clear hcz30_2);(try clear hcz30_3);(try clear hfz30_0);(try clear hfz30_1);(try clear hfz30_2);(try clear hfz30_3);(try clear hx114_0);(try clear hx114_1);(try clear hx119_0);(try clear hx119_1);(try clear hx119_2);(try clear hx119_3);(try clear p1);(try clear p11);(try clear p114);(try clear p119);(try clear p2);(try clear q1);(try clear q11);(try clear q114);(try clear q119);obtain⟨kq,x5_28,HA,HJ28,HO_5,BK112,HB⟩:=hcut
            cases kq with
            | zero=>exact absurd HA.out (by simp[patch_May.j2])
            | succ kj28 =>
             have H:=HA.out;clear HA;(simp only[patch_May.j2] at H);replace H:=Option.bind_eq_some_iff.mp H;obtain⟨t123,A390,H⟩:=H;(try dsimp only at H);have A39:=Aside0.mk A390;clear A390;replace H:=Option.bind_eq_some_iff.mp H;obtain⟨t126,A400,H⟩:=H;(try dsimp only at H);have A40:=Aside0.mk A400;clear A400;have H':=Aside0.mk H;clear H;have hcz41_0:wc.cell? ⟨gb112,0,none⟩=some (.slice A111_0 ((rd_T48 l0 x11_1).f0).length c111_0):=(blk_cell BK112.out 0).trans rfl;have hcz41_1:wc.cell? ⟨gb112,1,none⟩=some (.int .i64 ((rd_T48 l0 x11_1).f1.f0)):=(blk_cell BK112.out 1).trans rfl;have hcz41_2:wc.cell? ⟨gb112,2,none⟩=some (.int .i64 ((rd_T48 l0 x11_1).f1.f1)):=(blk_cell BK112.out 2).trans rfl;have hcz41_3:wc.cell? ⟨gb112,3,none⟩=some (.slice A111_3 ((rd_T48 l0 x11_1).f2).length c111_3):=(blk_cell BK112.out 3).trans rfl;have hfz41_0:=blk_frozen BK112.out 0;have hfz41_1:=blk_frozen BK112.out 1;have hfz41_2:=blk_frozen BK112.out 2;have hfz41_3:=blk_frozen BK112.out 3
             (go_wp2_with (first|((with_reducible refine gate_callee (f:=113) rfl ?_);refine goesL_ (some 63) rfl rfl Tryd.func113 (by kernel_rfl) rfl #[.agg #[.slice A111_0 ((rd_T48 l0 x11_1).f0).length c111_0, .int .i64 ((rd_T48 l0 x11_1).f1.f0), .int .i64 ((rd_T48 l0 x11_1).f1.f1), .slice A111_3 ((rd_T48 l0 x11_1).f2).length c111_3]] rfl am_ ?_;(with_reducible refine(patch_counts.calls kj28 _ _ ((rd_T48 l0 x11_1).f0) ((rd_T48 l0 x11_1).f1.f0) ((rd_T48 l0 x11_1).f1.f1) _ _ ((rd_T48 l0 x11_1).f2) t123 _ ?side1 ?side2 ?side3 ?side4 A39.out).mono ?_);(case side1=>repeat(first|exact(Kd.C_below HR111_0.out HB.out)|(with_reducible refine Kd.C_alloc ?_ _)|(with_reducible refine Kd.C_drewN ?_ _)|(with_reducible refine Kd.C_drew ?_)));(case side2=>exact HC111_0.out);(case side3=>repeat(first|exact(Kd.C_below HR111_3.out HB.out)|(with_reducible refine Kd.C_alloc ?_ _)|(with_reducible refine Kd.C_drewN ?_ _)|(with_reducible refine Kd.C_drew ?_)));(case side4=>exact HC111_3.out);rintro e w42 ⟨v124,rfl,ho0,hb⟩;refine⟨_,rfl,?_⟩;replace HO_5:=Aside0.mk (Kd.R_below (pR_ HO_5.out) hb);have HO125:=Aside0.mk (Kd.R_lower ho0 (below_size (bs1_ GE112.out)));replace BK112:=Aside0.mk (blk_below (g:=gb112) (o := .cells #[.slice A111_0 ((rd_T48 l0 x11_1).f0).length c111_0, .int .i64 ((rd_T48 l0 x11_1).f1.f0), .int .i64 ((rd_T48 l0 x11_1).f1.f1), .slice A111_3 ((rd_T48 l0 x11_1).f2).length c111_3] 48 (0,0)) (pK_ BK112.out) hb);replace HB:=Aside0.mk (below_step (bs1_ GE112.out) hb);(try clear hb);(try clear hb2);(try clear hk);(try clear hi);(try clear ho0);have hcz43_0:w42.cell? ⟨gb112,0,none⟩=some (.slice A111_0 ((rd_T48 l0 x11_1).f0).length c111_0):=(blk_cell BK112.out 0).trans rfl;have hcz43_1:w42.cell? ⟨gb112,1,none⟩=some (.int .i64 ((rd_T48 l0 x11_1).f1.f0)):=(blk_cell BK112.out 1).trans rfl;have hcz43_2:w42.cell? ⟨gb112,2,none⟩=some (.int .i64 ((rd_T48 l0 x11_1).f1.f1)):=(blk_cell BK112.out 2).trans rfl;have hcz43_3:w42.cell? ⟨gb112,3,none⟩=some (.slice A111_3 ((rd_T48 l0 x11_1).f2).length c111_3):=(blk_cell BK112.out 3).trans rfl;have hfz43_0:=blk_frozen BK112.out 0;have hfz43_1:=blk_frozen BK112.out 1;have hfz43_2:=blk_frozen BK112.out 2;have hfz43_3:=blk_frozen BK112.out 3)|((with_reducible refine gate_callee (f:=112) rfl ?_);refine goesL_ (some 65) rfl rfl Tryd.func112 (by kernel_rfl) rfl #[.agg #[.slice A111_0 ((rd_T48 l0 x11_1).f0).length c111_0, .int .i64 ((rd_T48 l0 x11_1).f1.f0), .int .i64 ((rd_T48 l0 x11_1).f1.f1), .slice A111_3 ((rd_T48 l0 x11_1).f2).length c111_3]] rfl am_ ?_;(with_reducible refine(patch_spans.calls _ _ ((rd_T48 l0 x11_1).f0) ((rd_T48 l0 x11_1).f1.f0) ((rd_T48 l0 x11_1).f1.f1) _ _ ((rd_T48 l0 x11_1).f2) t126 _ ?side1 ?side2 ?side3 ?side4 A40.out).mono ?_);(case side1=>repeat(first|exact(Kd.C_below HR111_0.out HB.out)|(with_reducible refine Kd.C_alloc ?_ _)|(with_reducible refine Kd.C_drewN ?_ _)|(with_reducible refine Kd.C_drew ?_)));(case side2=>exact HC111_0.out);(case side3=>repeat(first|exact(Kd.C_below HR111_3.out HB.out)|(with_reducible refine Kd.C_alloc ?_ _)|(with_reducible refine Kd.C_drewN ?_ _)|(with_reducible refine Kd.C_drew ?_)));(case side4=>exact HC111_3.out);rintro e w44 ⟨v127,rfl,ho0,hb⟩;refine⟨_,rfl,?_⟩;replace HO125:=Aside0.mk (Kd.R_below (pR_ HO125.out) hb);have HO128:=Aside0.mk (Kd.R_lower (Kd.R_new' ho0 (Kd.R_lt (pR_ HO_5.out))) (below_size (bs1_ GE112.out)));replace HO_5:=Aside0.mk (Kd.R_elder' (pR_ HO_5.out) (Kd.R_base ho0) hb);replace BK112:=Aside0.mk (blk_below (g:=gb112) (o := .cells #[.slice A111_0 ((rd_T48 l0 x11_1).f0).length c111_0, .int .i64 ((rd_T48 l0 x11_1).f1.f0), .int .i64 ((rd_T48 l0 x11_1).f1.f1), .slice A111_3 ((rd_T48 l0 x11_1).f2).length c111_3] 48 (0,0)) (pK_ BK112.out) hb);replace HB:=Aside0.mk (below_step (bs1_ GE112.out) hb);(try clear hb);(try clear hb2);(try clear hk);(try clear hi);(try clear ho0);obtain⟨Ao45,co45,eo45⟩:=Kd.R_slice HO128.out;subst eo45)))
             go_loopg [67] kj28 (fun kq v67 w' => ∃ (x67_4:Int),v67 = .int .i64 x67_4∧Aside0 (patch_May.l1 kq l0 x5_28 t123 l0 (l0.length:Int) x11_1 t126 (t126.length:Int) x67_4=some r)∧Aside0 (kq≤kj28)∧Aside0 (Kd.R k45 45 w' w.heap.size (fun k_=>some k_≠((.slice Ao45 t126.length co45):Value).ownBlock) u5 x5_28)∧Aside0 (Kd.R (Kd.int .i64) 3 w' w.heap.size (fun _=>True) v124 t123)∧Aside0 (Kd.R k45 45 w' w.heap.size (fun k_=>some k_≠(u5:Value).ownBlock) (.slice Ao45 t126.length co45) t126)∧Aside0 (w'.heap[gb112]? = some (.cells #[(.slice A111_0 ((rd_T48 l0 x11_1).f0).length c111_0), .int .i64 ((rd_T48 l0 x11_1).f1.f0), .int .i64 ((rd_T48 l0 x11_1).f1.f1),(.slice A111_3 ((rd_T48 l0 x11_1).f2).length c111_3)] 48 (0,0)))∧Aside0 (Below w.heap.size w w'))
             (case atStart=>exact⟨(0),rs_,H',⟨Nat.le_refl _⟩,⟨Kd.R_mono (pRm_ HO_5.out) (fun _ hk=>hk.2)⟩,⟨pR_ HO125.out⟩,⟨Kd.R_mono (pRm_ HO128.out) (fun _ hk=>hk.2)⟩,⟨pK_ BK112.out⟩,⟨bs1_ GE112.out⟩⟩)
             case round =>
              clear H';(try clear c1);(try clear p1);(try clear q1);(try clear hx1);(try clear qi1);(try clear c2);(try clear p2);(try clear c3);(try clear p6);(try clear c11);(try clear p11);(try clear q11);(try clear hx11);(try clear qi11);(try clear c12);(try clear c13);(try clear c14);(try clear c14b0);(try clear c14b1);(try clear c14b2);(try clear c15);(try clear c25);(try clear c27);(try clear c27b0);(try clear c27b1);(try clear c28);(try clear c28b0);(try clear c28b1);(try clear c33);(try clear c33b0);(try clear c35);(try clear c35b0);(try clear c36);(try clear c36b0);(try clear hcz30_0);(try clear hcz30_1);(try clear hcz30_2);(try clear hcz30_3);(try clear hcz41_0);(try clear hcz41_1);(try clear hcz41_2);(try clear hcz41_3);(try clear hcz43_0);(try clear hcz43_1);(try clear hcz43_2);(try clear hcz43_3);(try clear hfz30_0);(try clear hfz30_1);(try clear hfz30_2);(try clear hfz30_3);(try clear hfz41_0);(try clear hfz41_1);(try clear hfz41_2);(try clear hfz41_3);(try clear hfz43_0);(try clear hfz43_1);(try clear hfz43_2);(try clear hfz43_3);(try clear hx114_0);(try clear hx114_1);(try clear hx119_0);(try clear hx119_1);(try clear hx119_2);(try clear hx119_3);(try clear p1);(try clear p11);(try clear p114);(try clear p119);(try clear p2);(try clear p6);(try clear q1);(try clear q11);(try clear q114);(try clear q119);obtain⟨x67_4,rfl,HA,HK4,HO_5,HO_6,HO_65,BK112,HB⟩:=hrel
              cases gk with
              | zero=>exact absurd HA.out (by simp[patch_May.l1])
              | succ k4 =>
               have H:=HA.out;clear HA;(simp only[patch_May.l1] at H)
               by_cases c46:x67_4 < (t126.length:Int)
               ·
                (rw[if_pos c46] at H);have c46b0:decide (x67_4 < (t126.length:Int))=true:=decide_eq_true c46;clear c46
                by_cases c47:0≤x67_4
                ·
                 (rw[if_pos c47] at H);have c47b0:decide (0≤x67_4)=true:=decide_eq_true c47;clear c47
                 by_cases c48:x67_4 < (t126.length:Int)
                 ·
                  (rw[if_pos c48] at H);have c48b0:decide (x67_4 < (t126.length:Int))=true:=decide_eq_true c48;clear c48
                  by_cases c49:x67_4 < (x5_28.length:Int)
                  ·
                   (rw[if_pos c49] at H);have c49b0:decide (x67_4 < (x5_28.length:Int))=true:=decide_eq_true c49;clear c49
                   by_cases c50:x67_4 < (t123.length:Int)
                   ·
                    (rw[if_pos c50] at H);have c50b0:decide (x67_4 < (t123.length:Int))=true:=decide_eq_true c50;clear c50;replace H:=Option.bind_eq_some_iff.mp H;obtain⟨t133,A510,H⟩:=H;(try dsimp only at H);have A51:=Aside0.mk A510;clear A510
                    by_cases c52:t133=true
                    ·
                     subst c52;have H1:=H;(rw[if_pos rfl] at H1);clear H;have H:=H1;clear H1;have H':=Aside0.mk H;clear H;have p129:0≤(x67_4:Int):=dt_;have q129:x67_4 < (t126.length:Int):=dt_;obtain⟨ad129,e129,hx129_0,hx129_1⟩:=at_T45 (Kd.R_reads' HO_65.out).2.2 x67_4 p129 q129;cases e129;replace p129:=eq_true p129;replace q129:=eq_true q129;(try go_wp2_with (first|((with_reducible refine gate_dst (N:=8) rfl ?_);(try(refine gate_guard (by rfl) ?_;dsimp only));refine box_event ?hg (N:=8) ?hd (cs:=#[.int .i64 0, .int .i64 0]) (t:=45) ?hr ?_;(case hd=>rfl);(case hg=>rfl);(case hr=>first|(go_simp;done)|(go_simp;rfl));intro gb130 hg w53 hbox hb;replace HO_5:=Aside0.mk (Kd.R_below (Kd.R_elderB (pR_ HO_5.out) gb130 (Nat.le_of_eq hg.symm)) hb);replace HO_6:=Aside0.mk (Kd.R_below (pR_ HO_6.out) hb);replace HO_65:=Aside0.mk (Kd.R_below (Kd.R_elderB (pR_ HO_65.out) gb130 (Nat.le_of_eq hg.symm)) hb);have BK130:=Aside0.mk (hbox);have GW130:=Aside0.mk ((by rw[hg];exact(below_size (bs1_ GE112.out)):w.heap.size≤gb130));have GE130:=Aside0.mk ((by rw[hg];exact(below_size (bs1_ GE112.out)):w.heap.size≤gb130));replace HB:=Aside0.mk (below_step (bs1_ GE112.out) hb);have NB112_130:=Aside0.mk ((by rw[hg];exact Nat.ne_of_lt (blk_lt (g:=gb112) (o := .cells #[.slice A111_0 ((rd_T48 l0 x11_1).f0).length c111_0, .int .i64 ((rd_T48 l0 x11_1).f1.f0), .int .i64 ((rd_T48 l0 x11_1).f1.f1), .slice A111_3 ((rd_T48 l0 x11_1).f2).length c111_3] 48 (0,0)) (pK_ BK112.out)):gb112≠gb130));have NB130_112:=Aside0.mk ((by rw[hg];exact Nat.ne_of_gt (blk_lt (g:=gb112) (o := .cells #[.slice A111_0 ((rd_T48 l0 x11_1).f0).length c111_0, .int .i64 ((rd_T48 l0 x11_1).f1.f0), .int .i64 ((rd_T48 l0 x11_1).f1.f1), .slice A111_3 ((rd_T48 l0 x11_1).f2).length c111_3] 48 (0,0)) (pK_ BK112.out)):gb130≠gb112));replace BK112:=Aside0.mk (blk_below (g:=gb112) (o := .cells #[.slice A111_0 ((rd_T48 l0 x11_1).f0).length c111_0, .int .i64 ((rd_T48 l0 x11_1).f1.f0), .int .i64 ((rd_T48 l0 x11_1).f1.f1), .slice A111_3 ((rd_T48 l0 x11_1).f2).length c111_3] 48 (0,0)) (pK_ BK112.out) hb);clear hb hbox hg;have hnb54:=NB130_112.out;have hnc54:=NB112_130.out;have hcz55_0:w53.cell? ⟨gb130,0,none⟩=some (.int .i64 0):=(blk_cell BK130.out 0).trans rfl;have hcz55_1:w53.cell? ⟨gb130,1,none⟩=some (.int .i64 0):=(blk_cell BK130.out 1).trans rfl;have hfz55_0:=blk_frozen BK130.out 0;have hfz55_1:=blk_frozen BK130.out 1)));have n0_:Aside0 (Kd.R k45 45 ((w53.setCell ⟨gb130,0,none⟩ (.int .i64 ((rd_T45 t126 x67_4).f0))).setCell ⟨gb130,1,none⟩ (.int .i64 ((rd_T45 t126 x67_4).f1))) w.heap.size (fun k_=>some k_≠(.slice (some ad129) t126.length co45:Value).ownBlock∧k_≠gb130) u5 x5_28):=⟨by(with_reducible repeat(first|apply Kd.R_alloc|apply Kd.R_drewN|apply Kd.R_drew));exact Kd.R_mono (Kd.R_far (p:=⟨gb130,1,none⟩) (Kd.R_far (p:=⟨gb130,0,none⟩) (Kd.R_mono HO_5.out (fun k_ hk=>(⟨hk,hk.2⟩:_∧k_≠gb130))) (fun _ hk=>hk.2) (.int .i64 ((rd_T45 t126 x67_4).f0))) (fun _ hk=>hk.2) (.int .i64 ((rd_T45 t126 x67_4).f1))) (fun _ hk=>⟨hk.1.1,hk.1.2⟩)⟩;have n1_:Aside0 (Kd.R (Kd.int .i64) 3 ((w53.setCell ⟨gb130,0,none⟩ (.int .i64 ((rd_T45 t126 x67_4).f0))).setCell ⟨gb130,1,none⟩ (.int .i64 ((rd_T45 t126 x67_4).f1))) w.heap.size (fun _=>True) v124 t123):=⟨by(with_reducible repeat(first|apply Kd.R_alloc|apply Kd.R_drewN|apply Kd.R_drew));exact Kd.R_mono (Kd.R_far (p:=⟨gb130,1,none⟩) (Kd.R_far (p:=⟨gb130,0,none⟩) (Kd.R_types HO_6.out BK130.out (by decide)) (fun _ hk=>hk.2) (.int .i64 ((rd_T45 t126 x67_4).f0))) (fun _ hk=>hk.2) (.int .i64 ((rd_T45 t126 x67_4).f1))) (fun _ hk=>trivial)⟩;have n2_:Aside0 (Kd.R k45 45 ((w53.setCell ⟨gb130,0,none⟩ (.int .i64 ((rd_T45 t126 x67_4).f0))).setCell ⟨gb130,1,none⟩ (.int .i64 ((rd_T45 t126 x67_4).f1))) w.heap.size (fun k_=>some k_≠(u5:Value).ownBlock∧k_≠gb130) (.slice (some ad129) t126.length co45) t126):=⟨by(with_reducible repeat(first|apply Kd.R_alloc|apply Kd.R_drewN|apply Kd.R_drew));exact Kd.R_mono (Kd.R_far (p:=⟨gb130,1,none⟩) (Kd.R_far (p:=⟨gb130,0,none⟩) (Kd.R_mono HO_65.out (fun k_ hk=>(⟨hk,hk.2⟩:_∧k_≠gb130))) (fun _ hk=>hk.2) (.int .i64 ((rd_T45 t126 x67_4).f0))) (fun _ hk=>hk.2) (.int .i64 ((rd_T45 t126 x67_4).f1))) (fun _ hk=>⟨hk.1.1,hk.1.2⟩)⟩
                     have n3_:Aside0 (((w53.setCell ⟨gb130,0,none⟩ (.int .i64 ((rd_T45 t126 x67_4).f0))).setCell ⟨gb130,1,none⟩ (.int .i64 ((rd_T45 t126 x67_4).f1))).heap[gb112]? = some (.cells #[.slice A111_0 ((rd_T48 l0 x11_1).f0).length c111_0, .int .i64 ((rd_T48 l0 x11_1).f1.f0), .int .i64 ((rd_T48 l0 x11_1).f1.f1), .slice A111_3 ((rd_T48 l0 x11_1).f2).length c111_3] 48 (0,0))):=⟨by(with_reducible repeat(first|refine blk_drewN ?_ _|refine blk_drew ?_|refine blk_alloc ?_ _));refine blk_far ?_ NB112_130.out _;(with_reducible repeat(first|refine blk_drewN ?_ _|refine blk_drew ?_|refine blk_alloc ?_ _));refine blk_far ?_ NB112_130.out _;(with_reducible repeat(first|refine blk_drewN ?_ _|refine blk_drew ?_|refine blk_alloc ?_ _));exact BK112.out⟩;have n4_:Aside0 (((w53.setCell ⟨gb130,0,none⟩ (.int .i64 ((rd_T45 t126 x67_4).f0))).setCell ⟨gb130,1,none⟩ (.int .i64 ((rd_T45 t126 x67_4).f1))).heap[gb130]? = some (.cells #[.int .i64 ((rd_T45 t126 x67_4).f0), .int .i64 ((rd_T45 t126 x67_4).f1)] 45 (0,0))):=⟨by(with_reducible repeat(first|refine blk_drewN ?_ _|refine blk_drew ?_|refine blk_alloc ?_ _));refine blk_put (cs:=#[.int .i64 ((rd_T45 t126 x67_4).f0), .int .i64 0]) ?_ 1 _ rfl;(with_reducible repeat(first|refine blk_drewN ?_ _|refine blk_drew ?_|refine blk_alloc ?_ _));refine blk_put (cs:=#[.int .i64 0, .int .i64 0]) ?_ 0 _ rfl;(with_reducible repeat(first|refine blk_drewN ?_ _|refine blk_drew ?_|refine blk_alloc ?_ _));exact BK130.out⟩;have n5_:Aside0 (Below w.heap.size w ((w53.setCell ⟨gb130,0,none⟩ (.int .i64 ((rd_T45 t126 x67_4).f0))).setCell ⟨gb130,1,none⟩ (.int .i64 ((rd_T45 t126 x67_4).f1)))):=⟨bs2_ GE112.out GE130.out⟩;(try clear HO_5);(try clear HO_6);(try clear HO_65);(try clear BK112);(try clear BK130);(try clear HB);(generalize ((w53.setCell ⟨gb130,0,none⟩ (.int .i64 ((rd_T45 t126 x67_4).f0))).setCell ⟨gb130,1,none⟩ (.int .i64 ((rd_T45 t126 x67_4).f1)))=w56 at n0_ n1_ n2_ n3_ n4_ n5_ ⊢);have HO_5:=n0_;have HO_6:=n1_;have HO_65:=n2_;have BK112:=n3_;have BK130:=n4_;have HB:=n5_;clear n0_ n1_ n2_ n3_ n4_ n5_;replace HO_5:=Aside0.mk (Kd.R_drew HO_5.out);replace HO_6:=Aside0.mk (Kd.R_drew HO_6.out);replace HO_65:=Aside0.mk (Kd.R_drew HO_65.out);replace BK112:=Aside0.mk (blk_drew BK112.out);replace BK130:=Aside0.mk (blk_drew BK130.out);replace HB:=Aside0.mk (below_drew1 HB.out);obtain⟨Ao58,co58,eo58⟩:=Kd.R_slice HO_5.out;(first|subst eo58|(injection eo58 with f1_ f2_ f3_;have f4_:=f1_.symm;have f5_:=f3_.symm;clear f1_ f2_ f3_;subst f4_;subst f5_));have p131:0≤(x67_4:Int):=dt_;have q131:x67_4 < (x5_28.length:Int):=dt_;obtain⟨ad131,e131,hx131_0,hx131_1⟩:=at_T45 (Kd.R_reads' HO_5.out).2.2 x67_4 p131 q131;cases e131;replace p131:=eq_true p131;replace q131:=eq_true q131;obtain⟨Ao59,co59,eo59⟩:=Kd.R_slice HO_6.out;(first|subst eo59|(injection eo59 with f1_ f2_ f3_;have f4_:=f1_.symm;have f5_:=f3_.symm;clear f1_ f2_ f3_;subst f4_;subst f5_));have p132:0≤(x67_4:Int):=dt_;have q132:x67_4 < (t123.length:Int):=dt_;obtain⟨ad132,e132,hx132_0⟩:=Kd.at_int (Kd.R_reads' HO_6.out).2.2 x67_4 p132 q132;cases e132;replace p132:=eq_true p132;replace q132:=eq_true q132;(refine start_ (n:=11) (S:=fun w'=>w'.cell? ⟨gb130,0,none⟩=some (.int .i64 ((rd_T45 t126 x67_4).f0))∧w'.cell? ⟨gb130,1,none⟩=some (.int .i64 ((rd_T45 t126 x67_4).f1))∧w'.cell? (ad131.add ((x67_4).toNat * 2))=some (.int .i64 ((rd_T45 x5_28 x67_4).f0))∧w'.cell? ⟨(ad131.add ((x67_4).toNat * 2)).block,(ad131.add ((x67_4).toNat * 2)).off+1,none⟩=some (.int .i64 ((rd_T45 x5_28 x67_4).f1))∧w'.cell? (ad132.add (x67_4).toNat)=some (.int .i64 (rd t123 x67_4))) (ds:=[]) (bm_ 11 0) (by kernel_rfl) rfl rfl ⟨(blk_cell BK130.out 0).trans rfl,(blk_cell BK130.out 1).trans rfl,hx131_0,hx131_1,hx132_0⟩ (fun hHeld=>?_);refine with_tabW patch_May.tab13 patch_May.bits13 (fun HT_ HW_=>?_));(generalize w56.drew=w57 at HO_5 HO_6 HO_65 BK112 BK130 HB hx131_0 hx131_1 hx132_0 hHeld ⊢);refine pq_ (i:=1) (N:=some 73) (hc:=any_of HT_.out (by kernel_rfl)) (bm_ 11 2) ?_;refine pq_ (i:=2) (N:=some 74) (hc:=any_of HT_.out (by kernel_rfl)) (bm_ 11 6) ?_;refine pq_ (i:=3) (N:=some 75) (hc:=any_of HT_.out (by kernel_rfl)) (bm_ 11 14) ?_
                     refine pq_ (i:=5) (N:=some 77) (hc:=any_of HT_.out (by kernel_rfl)) (bm_ 11 46) ?_;refine pq_ (i:=6) (N:=some 78) (hc:=any_of HT_.out (by kernel_rfl)) (bm_ 11 110) ?_;refine pq_ (i:=7) (N:=some 79) (hc:=any_of HT_.out (by kernel_rfl)) (bm_ 11 238) ?_;refine tq_ (i:=0) (N:=some 72) (hc:=take_ofW HT_.out HW_.out (by kernel_rfl)) (bm_ 11 239) hHeld ?_;refine tq_ (i:=4) (N:=some 76) (hc:=take_ofW HT_.out HW_.out (by kernel_rfl)) (bm_ 11 255) hHeld ?_;refine tq_ (i:=8) (N:=some 80) (hc:=take_ofW HT_.out HW_.out (by kernel_rfl)) (bm_ 11 511) hHeld ?_;refine one_ (i:=9) (N:=some 81) (bm_ 11 1023) rfl rfl (one_of HT_.out (by kernel_rfl)) (by decide) (fun K hK=>?_);refine goes_ Tryd.func114 (by kernel_rfl) rfl #[.agg #[.int .i64 ((rd_T45 t126 x67_4).f0), .int .i64 ((rd_T45 t126 x67_4).f1)], .agg #[.int .i64 ((rd_T45 x5_28 x67_4).f0), .int .i64 ((rd_T45 x5_28 x67_4).f1)], .int .i64 (rd t123 x67_4)] (by rfl) rfl rfl am_ ?_;(with_reducible refine(patch_within.calls ((rd_T45 t126 x67_4).f0) ((rd_T45 t126 x67_4).f1) ((rd_T45 x5_28 x67_4).f0) ((rd_T45 x5_28 x67_4).f1) (rd t123 x67_4) true _ A51.out).mono ?_);rintro e w60 ⟨rfl,hb⟩;have HS2_:=(hb.cell (World.block_lt_of_cell? _ _ (hHeld.2.2.1))).trans (hHeld.2.2.1);have HS3_:=(hb.cell (World.block_lt_of_cell? _ _ (hHeld.2.2.2.1))).trans (hHeld.2.2.2.1);have HS4_:=(hb.cell (World.block_lt_of_cell? _ _ (hHeld.2.2.2.2))).trans (hHeld.2.2.2.2);refine⟨_,rfl,?_⟩;replace HO_5:=Aside0.mk (Kd.R_below (pR_ HO_5.out) hb);replace HO_6:=Aside0.mk (Kd.R_below (pR_ HO_6.out) hb);replace HO_65:=Aside0.mk (Kd.R_below (pR_ HO_65.out) hb);replace BK112:=Aside0.mk (blk_below (g:=gb112) (o := .cells #[.slice A111_0 ((rd_T48 l0 x11_1).f0).length c111_0, .int .i64 ((rd_T48 l0 x11_1).f1.f0), .int .i64 ((rd_T48 l0 x11_1).f1.f1), .slice A111_3 ((rd_T48 l0 x11_1).f2).length c111_3] 48 (0,0)) (pK_ BK112.out) hb);replace BK130:=Aside0.mk (blk_below (g:=gb130) (o := .cells #[.int .i64 ((rd_T45 t126 x67_4).f0), .int .i64 ((rd_T45 t126 x67_4).f1)] 45 (0,0)) (pK_ BK130.out) hb);replace HB:=Aside0.mk (below_step (bs2_ GE112.out GE130.out) hb);(try clear hb);(try clear hb2);(try clear hk);(try clear hi);refine hK.out _ _ ⟨(blk_cell BK130.out 0).trans rfl,(blk_cell BK130.out 1).trans rfl,HS2_,HS3_,HS4_⟩ (fun hHeld=>?_);clear hK K;refine nq_ (N:=some 81) ?_;refine pq_ (i:=10) (N:=some 82) (hc:=any_of HT_.out (by kernel_rfl)) (bm_ 11 2047) ?_;refine done_ (done_of HT_.out (by kernel_rfl)) ?_;(try go_wp2)
                     go_roundg k4
                     (case measure=>have:=HK1.out;have:=HJ4.out;have:=HJ28.out;have:=HK4.out;omega);(case rel=>exact⟨(wrap64 (x67_4+1)),rs_,H',⟨by have:=HK1.out;have:=HJ4.out;have:=HJ28.out;have:=HK4.out;omega⟩,⟨Kd.R_mono (pRm_ HO_5.out) (fun _ hk=>hk.1)⟩,⟨pR_ HO_6.out⟩,⟨Kd.R_mono (pRm_ HO_65.out) (fun _ hk=>hk.1)⟩,⟨pK_ BK112.out⟩,⟨bs2_ GE112.out GE130.out⟩⟩)
                    ·
                     replace c52:=Bool.eq_false_iff.mpr c52;subst c52;have H1:=H;(rw[if_neg (show ¬ (false=true) by decide)] at H1);clear H;have H:=H1;clear H1;obtain rfl:=Option.some.inj H;have p129:0≤(x67_4:Int):=dt_;have q129:x67_4 < (t126.length:Int):=dt_;obtain⟨ad129,e129,hx129_0,hx129_1⟩:=at_T45 (Kd.R_reads' HO_65.out).2.2 x67_4 p129 q129;cases e129;replace p129:=eq_true p129;replace q129:=eq_true q129;(try go_wp2_with (first|((with_reducible refine gate_dst (N:=8) rfl ?_);(try(refine gate_guard (by rfl) ?_;dsimp only));refine box_event ?hg (N:=8) ?hd (cs:=#[.int .i64 0, .int .i64 0]) (t:=45) ?hr ?_;(case hd=>rfl);(case hg=>rfl);(case hr=>first|(go_simp;done)|(go_simp;rfl));intro gb130 hg w61 hbox hb;replace HO_5:=Aside0.mk (Kd.R_below (Kd.R_elderB (pR_ HO_5.out) gb130 (Nat.le_of_eq hg.symm)) hb);replace HO_6:=Aside0.mk (Kd.R_below (pR_ HO_6.out) hb);replace HO_65:=Aside0.mk (Kd.R_below (Kd.R_elderB (pR_ HO_65.out) gb130 (Nat.le_of_eq hg.symm)) hb);have BK130:=Aside0.mk (hbox);have GW130:=Aside0.mk ((by rw[hg];exact(below_size (bs1_ GE112.out)):w.heap.size≤gb130));have GE130:=Aside0.mk ((by rw[hg];exact(below_size (bs1_ GE112.out)):w.heap.size≤gb130));replace HB:=Aside0.mk (below_step (bs1_ GE112.out) hb);have NB112_130:=Aside0.mk ((by rw[hg];exact Nat.ne_of_lt (blk_lt (g:=gb112) (o := .cells #[.slice A111_0 ((rd_T48 l0 x11_1).f0).length c111_0, .int .i64 ((rd_T48 l0 x11_1).f1.f0), .int .i64 ((rd_T48 l0 x11_1).f1.f1), .slice A111_3 ((rd_T48 l0 x11_1).f2).length c111_3] 48 (0,0)) (pK_ BK112.out)):gb112≠gb130));have NB130_112:=Aside0.mk ((by rw[hg];exact Nat.ne_of_gt (blk_lt (g:=gb112) (o := .cells #[.slice A111_0 ((rd_T48 l0 x11_1).f0).length c111_0, .int .i64 ((rd_T48 l0 x11_1).f1.f0), .int .i64 ((rd_T48 l0 x11_1).f1.f1), .slice A111_3 ((rd_T48 l0 x11_1).f2).length c111_3] 48 (0,0)) (pK_ BK112.out)):gb130≠gb112));replace BK112:=Aside0.mk (blk_below (g:=gb112) (o := .cells #[.slice A111_0 ((rd_T48 l0 x11_1).f0).length c111_0, .int .i64 ((rd_T48 l0 x11_1).f1.f0), .int .i64 ((rd_T48 l0 x11_1).f1.f1), .slice A111_3 ((rd_T48 l0 x11_1).f2).length c111_3] 48 (0,0)) (pK_ BK112.out) hb);clear hb hbox hg;have hnb62:=NB130_112.out;have hnc62:=NB112_130.out;have hcz63_0:w61.cell? ⟨gb130,0,none⟩=some (.int .i64 0):=(blk_cell BK130.out 0).trans rfl;have hcz63_1:w61.cell? ⟨gb130,1,none⟩=some (.int .i64 0):=(blk_cell BK130.out 1).trans rfl;have hfz63_0:=blk_frozen BK130.out 0;have hfz63_1:=blk_frozen BK130.out 1)));have n0_:Aside0 (Kd.R k45 45 ((w61.setCell ⟨gb130,0,none⟩ (.int .i64 ((rd_T45 t126 x67_4).f0))).setCell ⟨gb130,1,none⟩ (.int .i64 ((rd_T45 t126 x67_4).f1))) w.heap.size (fun k_=>some k_≠(.slice (some ad129) t126.length co45:Value).ownBlock∧k_≠gb130) u5 x5_28):=⟨by(with_reducible repeat(first|apply Kd.R_alloc|apply Kd.R_drewN|apply Kd.R_drew));exact Kd.R_mono (Kd.R_far (p:=⟨gb130,1,none⟩) (Kd.R_far (p:=⟨gb130,0,none⟩) (Kd.R_mono HO_5.out (fun k_ hk=>(⟨hk,hk.2⟩:_∧k_≠gb130))) (fun _ hk=>hk.2) (.int .i64 ((rd_T45 t126 x67_4).f0))) (fun _ hk=>hk.2) (.int .i64 ((rd_T45 t126 x67_4).f1))) (fun _ hk=>⟨hk.1.1,hk.1.2⟩)⟩;have n1_:Aside0 (Kd.R (Kd.int .i64) 3 ((w61.setCell ⟨gb130,0,none⟩ (.int .i64 ((rd_T45 t126 x67_4).f0))).setCell ⟨gb130,1,none⟩ (.int .i64 ((rd_T45 t126 x67_4).f1))) w.heap.size (fun _=>True) v124 t123):=⟨by(with_reducible repeat(first|apply Kd.R_alloc|apply Kd.R_drewN|apply Kd.R_drew));exact Kd.R_mono (Kd.R_far (p:=⟨gb130,1,none⟩) (Kd.R_far (p:=⟨gb130,0,none⟩) (Kd.R_types HO_6.out BK130.out (by decide)) (fun _ hk=>hk.2) (.int .i64 ((rd_T45 t126 x67_4).f0))) (fun _ hk=>hk.2) (.int .i64 ((rd_T45 t126 x67_4).f1))) (fun _ hk=>trivial)⟩;have n2_:Aside0 (Kd.R k45 45 ((w61.setCell ⟨gb130,0,none⟩ (.int .i64 ((rd_T45 t126 x67_4).f0))).setCell ⟨gb130,1,none⟩ (.int .i64 ((rd_T45 t126 x67_4).f1))) w.heap.size (fun k_=>some k_≠(u5:Value).ownBlock∧k_≠gb130) (.slice (some ad129) t126.length co45) t126):=⟨by(with_reducible repeat(first|apply Kd.R_alloc|apply Kd.R_drewN|apply Kd.R_drew));exact Kd.R_mono (Kd.R_far (p:=⟨gb130,1,none⟩) (Kd.R_far (p:=⟨gb130,0,none⟩) (Kd.R_mono HO_65.out (fun k_ hk=>(⟨hk,hk.2⟩:_∧k_≠gb130))) (fun _ hk=>hk.2) (.int .i64 ((rd_T45 t126 x67_4).f0))) (fun _ hk=>hk.2) (.int .i64 ((rd_T45 t126 x67_4).f1))) (fun _ hk=>⟨hk.1.1,hk.1.2⟩)⟩
                     have n3_:Aside0 (((w61.setCell ⟨gb130,0,none⟩ (.int .i64 ((rd_T45 t126 x67_4).f0))).setCell ⟨gb130,1,none⟩ (.int .i64 ((rd_T45 t126 x67_4).f1))).heap[gb112]? = some (.cells #[.slice A111_0 ((rd_T48 l0 x11_1).f0).length c111_0, .int .i64 ((rd_T48 l0 x11_1).f1.f0), .int .i64 ((rd_T48 l0 x11_1).f1.f1), .slice A111_3 ((rd_T48 l0 x11_1).f2).length c111_3] 48 (0,0))):=⟨by(with_reducible repeat(first|refine blk_drewN ?_ _|refine blk_drew ?_|refine blk_alloc ?_ _));refine blk_far ?_ NB112_130.out _;(with_reducible repeat(first|refine blk_drewN ?_ _|refine blk_drew ?_|refine blk_alloc ?_ _));refine blk_far ?_ NB112_130.out _;(with_reducible repeat(first|refine blk_drewN ?_ _|refine blk_drew ?_|refine blk_alloc ?_ _));exact BK112.out⟩;have n4_:Aside0 (((w61.setCell ⟨gb130,0,none⟩ (.int .i64 ((rd_T45 t126 x67_4).f0))).setCell ⟨gb130,1,none⟩ (.int .i64 ((rd_T45 t126 x67_4).f1))).heap[gb130]? = some (.cells #[.int .i64 ((rd_T45 t126 x67_4).f0), .int .i64 ((rd_T45 t126 x67_4).f1)] 45 (0,0))):=⟨by(with_reducible repeat(first|refine blk_drewN ?_ _|refine blk_drew ?_|refine blk_alloc ?_ _));refine blk_put (cs:=#[.int .i64 ((rd_T45 t126 x67_4).f0), .int .i64 0]) ?_ 1 _ rfl;(with_reducible repeat(first|refine blk_drewN ?_ _|refine blk_drew ?_|refine blk_alloc ?_ _));refine blk_put (cs:=#[.int .i64 0, .int .i64 0]) ?_ 0 _ rfl;(with_reducible repeat(first|refine blk_drewN ?_ _|refine blk_drew ?_|refine blk_alloc ?_ _));exact BK130.out⟩;have n5_:Aside0 (Below w.heap.size w ((w61.setCell ⟨gb130,0,none⟩ (.int .i64 ((rd_T45 t126 x67_4).f0))).setCell ⟨gb130,1,none⟩ (.int .i64 ((rd_T45 t126 x67_4).f1)))):=⟨bs2_ GE112.out GE130.out⟩;(try clear HO_5);(try clear HO_6);(try clear HO_65);(try clear BK112);(try clear BK130);(try clear HB);(generalize ((w61.setCell ⟨gb130,0,none⟩ (.int .i64 ((rd_T45 t126 x67_4).f0))).setCell ⟨gb130,1,none⟩ (.int .i64 ((rd_T45 t126 x67_4).f1)))=w64 at n0_ n1_ n2_ n3_ n4_ n5_ ⊢);have HO_5:=n0_;have HO_6:=n1_;have HO_65:=n2_;have BK112:=n3_;have BK130:=n4_;have HB:=n5_;clear n0_ n1_ n2_ n3_ n4_ n5_;replace HO_5:=Aside0.mk (Kd.R_drew HO_5.out);replace HO_6:=Aside0.mk (Kd.R_drew HO_6.out);replace HO_65:=Aside0.mk (Kd.R_drew HO_65.out);replace BK112:=Aside0.mk (blk_drew BK112.out);replace BK130:=Aside0.mk (blk_drew BK130.out);replace HB:=Aside0.mk (below_drew1 HB.out);obtain⟨Ao66,co66,eo66⟩:=Kd.R_slice HO_5.out;(first|subst eo66|(injection eo66 with f1_ f2_ f3_;have f4_:=f1_.symm;have f5_:=f3_.symm;clear f1_ f2_ f3_;subst f4_;subst f5_));have p131:0≤(x67_4:Int):=dt_;have q131:x67_4 < (x5_28.length:Int):=dt_;obtain⟨ad131,e131,hx131_0,hx131_1⟩:=at_T45 (Kd.R_reads' HO_5.out).2.2 x67_4 p131 q131;cases e131;replace p131:=eq_true p131;replace q131:=eq_true q131;obtain⟨Ao67,co67,eo67⟩:=Kd.R_slice HO_6.out;(first|subst eo67|(injection eo67 with f1_ f2_ f3_;have f4_:=f1_.symm;have f5_:=f3_.symm;clear f1_ f2_ f3_;subst f4_;subst f5_));have p132:0≤(x67_4:Int):=dt_;have q132:x67_4 < (t123.length:Int):=dt_;obtain⟨ad132,e132,hx132_0⟩:=Kd.at_int (Kd.R_reads' HO_6.out).2.2 x67_4 p132 q132;cases e132;replace p132:=eq_true p132;replace q132:=eq_true q132;(refine start_ (n:=11) (S:=fun w'=>w'.cell? ⟨gb130,0,none⟩=some (.int .i64 ((rd_T45 t126 x67_4).f0))∧w'.cell? ⟨gb130,1,none⟩=some (.int .i64 ((rd_T45 t126 x67_4).f1))∧w'.cell? (ad131.add ((x67_4).toNat * 2))=some (.int .i64 ((rd_T45 x5_28 x67_4).f0))∧w'.cell? ⟨(ad131.add ((x67_4).toNat * 2)).block,(ad131.add ((x67_4).toNat * 2)).off+1,none⟩=some (.int .i64 ((rd_T45 x5_28 x67_4).f1))∧w'.cell? (ad132.add (x67_4).toNat)=some (.int .i64 (rd t123 x67_4))) (ds:=[]) (bm_ 11 0) (by kernel_rfl) rfl rfl ⟨(blk_cell BK130.out 0).trans rfl,(blk_cell BK130.out 1).trans rfl,hx131_0,hx131_1,hx132_0⟩ (fun hHeld=>?_);refine with_tabW patch_May.tab13 patch_May.bits13 (fun HT_ HW_=>?_));(generalize w64.drew=w65 at HO_5 HO_6 HO_65 BK112 BK130 HB hx131_0 hx131_1 hx132_0 hHeld ⊢);refine pq_ (i:=1) (N:=some 73) (hc:=any_of HT_.out (by kernel_rfl)) (bm_ 11 2) ?_;refine pq_ (i:=2) (N:=some 74) (hc:=any_of HT_.out (by kernel_rfl)) (bm_ 11 6) ?_;refine pq_ (i:=3) (N:=some 75) (hc:=any_of HT_.out (by kernel_rfl)) (bm_ 11 14) ?_
                     refine pq_ (i:=5) (N:=some 77) (hc:=any_of HT_.out (by kernel_rfl)) (bm_ 11 46) ?_;refine pq_ (i:=6) (N:=some 78) (hc:=any_of HT_.out (by kernel_rfl)) (bm_ 11 110) ?_;refine pq_ (i:=7) (N:=some 79) (hc:=any_of HT_.out (by kernel_rfl)) (bm_ 11 238) ?_;refine tq_ (i:=0) (N:=some 72) (hc:=take_ofW HT_.out HW_.out (by kernel_rfl)) (bm_ 11 239) hHeld ?_;refine tq_ (i:=4) (N:=some 76) (hc:=take_ofW HT_.out HW_.out (by kernel_rfl)) (bm_ 11 255) hHeld ?_;refine tq_ (i:=8) (N:=some 80) (hc:=take_ofW HT_.out HW_.out (by kernel_rfl)) (bm_ 11 511) hHeld ?_;refine one_ (i:=9) (N:=some 81) (bm_ 11 1023) rfl rfl (one_of HT_.out (by kernel_rfl)) (by decide) (fun K hK=>?_);refine goes_ Tryd.func114 (by kernel_rfl) rfl #[.agg #[.int .i64 ((rd_T45 t126 x67_4).f0), .int .i64 ((rd_T45 t126 x67_4).f1)], .agg #[.int .i64 ((rd_T45 x5_28 x67_4).f0), .int .i64 ((rd_T45 x5_28 x67_4).f1)], .int .i64 (rd t123 x67_4)] (by rfl) rfl rfl am_ ?_;(with_reducible refine(patch_within.calls ((rd_T45 t126 x67_4).f0) ((rd_T45 t126 x67_4).f1) ((rd_T45 x5_28 x67_4).f0) ((rd_T45 x5_28 x67_4).f1) (rd t123 x67_4) false _ A51.out).mono ?_);rintro e w68 ⟨rfl,hb⟩;have HS2_:=(hb.cell (World.block_lt_of_cell? _ _ (hHeld.2.2.1))).trans (hHeld.2.2.1);have HS3_:=(hb.cell (World.block_lt_of_cell? _ _ (hHeld.2.2.2.1))).trans (hHeld.2.2.2.1);have HS4_:=(hb.cell (World.block_lt_of_cell? _ _ (hHeld.2.2.2.2))).trans (hHeld.2.2.2.2);refine⟨_,rfl,?_⟩;replace HO_5:=Aside0.mk (Kd.R_below (pR_ HO_5.out) hb);replace HO_6:=Aside0.mk (Kd.R_below (pR_ HO_6.out) hb);replace HO_65:=Aside0.mk (Kd.R_below (pR_ HO_65.out) hb);replace BK112:=Aside0.mk (blk_below (g:=gb112) (o := .cells #[.slice A111_0 ((rd_T48 l0 x11_1).f0).length c111_0, .int .i64 ((rd_T48 l0 x11_1).f1.f0), .int .i64 ((rd_T48 l0 x11_1).f1.f1), .slice A111_3 ((rd_T48 l0 x11_1).f2).length c111_3] 48 (0,0)) (pK_ BK112.out) hb);replace BK130:=Aside0.mk (blk_below (g:=gb130) (o := .cells #[.int .i64 ((rd_T45 t126 x67_4).f0), .int .i64 ((rd_T45 t126 x67_4).f1)] 45 (0,0)) (pK_ BK130.out) hb);replace HB:=Aside0.mk (below_step (bs2_ GE112.out GE130.out) hb);(try clear hb);(try clear hb2);(try clear hk);(try clear hi);refine hK.out _ _ ⟨(blk_cell BK130.out 0).trans rfl,(blk_cell BK130.out 1).trans rfl,HS2_,HS3_,HS4_⟩ (fun hHeld=>?_);clear hK K;refine nq_ (N:=some 81) ?_;refine pq_ (i:=10) (N:=some 82) (hc:=any_of HT_.out (by kernel_rfl)) (bm_ 11 2047) ?_;refine done_ (done_of HT_.out (by kernel_rfl)) ?_;(try go_wp2);go_ret
                     exact⟨by first|rfl|(simp[errW_none,errW_some] <;> rfl)|(simp only[← hji26];first|rfl|(simp[errW_none,errW_some] <;> rfl))|(simp[*,errW_none,errW_some] <;> rfl),by repeat(first|(with_reducible first|exact HB.out|apply below_alloc|apply pw_below_drewN|apply below_drew1|refine below_set ?_ GE112.out|refine below_set ?_ GE130.out)|exact HB.out)⟩
                   (· exact nx_ c50 H)
                  (· exact nx_ c49 H)
                 (· exact nx_ c48 H)
                (· exact nx_ c47 H)
               ·
                (rw[if_neg c46] at H);have c46b0:decide (x67_4 < (t126.length:Int))=false:=decide_eq_false c46;clear c46;have H':=Aside0.mk H;clear H;go_wp2
                go_roundg k4
                (case measure=>have:=HK1.out;have:=HJ4.out;have:=HJ28.out;have:=HK4.out;omega);(case rel=>exact⟨(wrap64 (x11_1+1)),rs_,H',⟨by have:=HK1.out;have:=HJ4.out;have:=HJ28.out;have:=HK4.out;omega⟩,⟨bs1_ GE112.out⟩⟩)
          (· exact nx_ c28 H)
         (· exact nx_ c27 H)
     (· exact nx_ c4 H)
    (· exact nx_ c3 H)
   (· (rw[if_neg c2] at H);have c2b0:decide (x11_1 < (l0.length:Int))=false:=decide_eq_false c2;clear c2;obtain rfl:=Option.some.inj H;go_wp2;go_ret;exact⟨by first|rfl|(simp[errW_none,errW_some] <;> rfl)|(simp[*,errW_none,errW_some] <;> rfl),bel_⟩)
def apply_check.j0:Nat→List (S48)→Bool→Option (Int)
  | 0,_,_=>none
  | k+1,x0,x7=>if x7=true then (some 1) else ((patch_May.f k x0).bind fun t104=>(if t104=true then (some 0) else (some 2)))
def apply_check.f (k:Nat) (l0:List (S48)) (a1:Int) (l2:List ByteArray):Option (Int):=if a1 < 0 then (apply_check.j0 k l0 true) else (if (l0.length:Int) > 0 then (if 0 < (l0.length:Int) then (if a1 ≥ (((rd_T48 l0 0).f0).length:Int) then (apply_check.j0 k l0 true) else ((lines_May.f k l2).bind fun t102=>(apply_check.j0 k l0 (!t102)))) else (none)) else ((lines_May.f k l2).bind fun t103=>(apply_check.j0 k l0 (!t103))))
theorem apply_check.calls (k:Nat) (A0:Option Addr) (c0:Nat) (l0:List (S48)) (a1:Int) (A2:Option Addr) (c2:Nat) (l2:List ByteArray) (r:Int) (w:World) (hr0:Kd.C k48 w A0 l0.length l0) (hc0:l0.length≤c0) (hr2:Kd.C Kd.string w A2 l2.length l2) (hc2:l2.length≤c2) (h:apply_check.f k l0 a1 l2=some r) :
    Calls Tryd.prog 70 #[.slice A0 l0.length c0, .int .i64 a1, .slice A2 l2.length c2] w fun e w'=>e = .returned (.int .i64 r)∧Below w.heap.size w w':=by
 have HR0:=Aside0.mk hr0;have HC0:=Aside0.mk hc0;clear hr0 hc0;have HR2:=Aside0.mk hr2;have HC2:=Aside0.mk hc2;clear hr2 hc2;have HB:=Aside0.mk (Below.refl w.heap.size w);have H:=h;(rw[apply_check.f] at H);clear h;have HC4:=Aside0.mk H;clear H;go_enter Tryd.func70,Tryd.ntmps70
 go_upto_region 1 with (fail)
 go_cut [7] (fun v7 wc => ∃ (kq:Nat) (x7_3:Bool),v7 = .bool x7_3∧Aside0 (apply_check.j0 kq l0 x7_3=some r)∧Aside0 (kq≤k)∧Aside0 (Below w.heap.size w wc))
 case first =>
  have H:=HC4.out;clear HC4
  by_cases c5:a1 < 0
  ·
   (rw[if_pos c5] at H);have c5b0:decide (a1 < 0)=true:=decide_eq_true c5;clear c5;(first|rw[c5b0]|(simp only[i64_w,i32_w];rw[c5b0])|skip);have H':=Aside0.mk H;clear H;go_wp2
   go_meet
   (case rel=>exact⟨_,(true),rs_,H',⟨by first|omega|exact Nat.le_refl _⟩,⟨bel_⟩⟩)
  ·
   (rw[if_neg c5] at H);have c5b0:decide (a1 < 0)=false:=decide_eq_false c5;clear c5;(first|rw[c5b0]|(simp only[i64_w,i32_w];rw[c5b0])|skip)
   by_cases c6:(l0.length:Int) > 0
   ·
    (rw[if_pos c6] at H);have c6b0:decide (0 < (l0.length:Int))=true:=decide_eq_true c6;have c6b1:decide (0 < l0.length)=true:=decide_eq_true (by omega);clear c6
    by_cases c7:0 < (l0.length:Int)
    ·
     (rw[if_pos c7] at H);have c7b0:decide (0 < (l0.length:Int))=true:=decide_eq_true c7;have c7b1:decide (0 < l0.length)=true:=decide_eq_true (by omega);clear c7
     by_cases c8:a1 ≥ (((rd_T48 l0 0).f0).length:Int)
     ·
      (rw[if_pos c8] at H);have c8b0:decide ((((rd_T48 l0 0).f0).length:Int)≤a1)=true:=decide_eq_true c8;clear c8;have H':=Aside0.mk H;clear H;have p101:0≤(0:Int):=(by omega);have q101:0 < (l0.length:Int):=dt_;obtain⟨ad101,A101_0,c101_0,A101_3,c101_3,e101,hx101_0,hx101_1,hx101_2,hx101_3,hl101_0,hi101_0,hl101_3,hi101_3⟩:=at_T48 HR0.out 0 p101 q101;cases e101;have qi101:(0 < l0.length)=True:=eq_true (by omega);(try rw[show ((0:Int)).toNat=0 from rfl] at hx101_0);(try rw[show 0 * 4=0 from rfl] at hx101_0);(try rw[Addr.add_zero'] at hx101_0);(try rw[show ((0:Int)).toNat=0 from rfl] at hx101_1);(try rw[show 0 * 4=0 from rfl] at hx101_1);(try rw[Addr.add_zero'] at hx101_1);(try rw[show ((0:Int)).toNat=0 from rfl] at hx101_2);(try rw[show 0 * 4=0 from rfl] at hx101_2);(try rw[Addr.add_zero'] at hx101_2);(try rw[show ((0:Int)).toNat=0 from rfl] at hx101_3);(try rw[show 0 * 4=0 from rfl] at hx101_3);(try rw[Addr.add_zero'] at hx101_3);replace hx101_0:=(HB.out.cell (World.block_lt_of_cell? w _ hx101_0)).trans hx101_0;replace hx101_1:=(HB.out.cell (World.block_lt_of_cell? w _ hx101_1)).trans hx101_1;replace hx101_2:=(HB.out.cell (World.block_lt_of_cell? w _ hx101_2)).trans hx101_2;replace hx101_3:=(HB.out.cell (World.block_lt_of_cell? w _ hx101_3)).trans hx101_3;have HR101_0:=Aside0.mk hi101_0;have HC101_0:=Aside0.mk hl101_0;clear hi101_0 hl101_0;have HR101_3:=Aside0.mk hi101_3;have HC101_3:=Aside0.mk hl101_3;clear hi101_3 hl101_3;replace p101:=eq_true p101;replace q101:=eq_true q101;go_wp2
      go_meet
      (case rel=>exact⟨_,(true),rs_,H',⟨by first|omega|exact Nat.le_refl _⟩,⟨bel_⟩⟩)
     ·
      (rw[if_neg c8] at H);have c8b0:decide ((((rd_T48 l0 0).f0).length:Int)≤a1)=false:=decide_eq_false c8;clear c8;replace H:=Option.bind_eq_some_iff.mp H;obtain⟨t102,A90,H⟩:=H;(try dsimp only at H);have A9:=Aside0.mk A90;clear A90;have H':=Aside0.mk H;clear H;have p101:0≤(0:Int):=(by omega);have q101:0 < (l0.length:Int):=dt_;obtain⟨ad101,A101_0,c101_0,A101_3,c101_3,e101,hx101_0,hx101_1,hx101_2,hx101_3,hl101_0,hi101_0,hl101_3,hi101_3⟩:=at_T48 HR0.out 0 p101 q101;cases e101;have qi101:(0 < l0.length)=True:=eq_true (by omega);(try rw[show ((0:Int)).toNat=0 from rfl] at hx101_0);(try rw[show 0 * 4=0 from rfl] at hx101_0);(try rw[Addr.add_zero'] at hx101_0);(try rw[show ((0:Int)).toNat=0 from rfl] at hx101_1);(try rw[show 0 * 4=0 from rfl] at hx101_1);(try rw[Addr.add_zero'] at hx101_1);(try rw[show ((0:Int)).toNat=0 from rfl] at hx101_2);(try rw[show 0 * 4=0 from rfl] at hx101_2);(try rw[Addr.add_zero'] at hx101_2);(try rw[show ((0:Int)).toNat=0 from rfl] at hx101_3);(try rw[show 0 * 4=0 from rfl] at hx101_3);(try rw[Addr.add_zero'] at hx101_3);replace hx101_0:=(HB.out.cell (World.block_lt_of_cell? w _ hx101_0)).trans hx101_0;replace hx101_1:=(HB.out.cell (World.block_lt_of_cell? w _ hx101_1)).trans hx101_1;replace hx101_2:=(HB.out.cell (World.block_lt_of_cell? w _ hx101_2)).trans hx101_2;replace hx101_3:=(HB.out.cell (World.block_lt_of_cell? w _ hx101_3)).trans hx101_3;have HR101_0:=Aside0.mk hi101_0;have HC101_0:=Aside0.mk hl101_0;clear hi101_0 hl101_0;have HR101_3:=Aside0.mk hi101_3;have HC101_3:=Aside0.mk hl101_3;clear hi101_3 hl101_3;replace p101:=eq_true p101;replace q101:=eq_true q101;(go_wp2_with (first|(go_at_call 65;(with_reducible refine(lines_May.calls k _ _ l2 t102 _ ?side1 ?side2 A9.out).mono ?_);(case side1=>repeat(first|exact(Kd.C_below HR2.out HB.out)|(with_reducible refine Kd.C_alloc ?_ _)|(with_reducible refine Kd.C_drewN ?_ _)|(with_reducible refine Kd.C_drew ?_)));(case side2=>exact HC2.out);rintro e w' ⟨rfl,⟨nd,rfl⟩⟩)))
      go_meet
      (case rel=>exact⟨_,(!t102),rs_,H',⟨by first|omega|exact Nat.le_refl _⟩,⟨bel_⟩⟩)
    (· exact nx_ c7 H)
   ·
    (rw[if_neg c6] at H);have c6b0:decide (0 < (l0.length:Int))=false:=decide_eq_false c6;have c6b1:decide (0 < l0.length)=false:=decide_eq_false (by omega);clear c6;replace H:=Option.bind_eq_some_iff.mp H;obtain⟨t103,A100,H⟩:=H;(try dsimp only at H);have A10:=Aside0.mk A100;clear A100;have H':=Aside0.mk H;clear H;(go_wp2_with (first|(go_at_call 65;(with_reducible refine(lines_May.calls k _ _ l2 t103 _ ?side1 ?side2 A10.out).mono ?_);(case side1=>repeat(first|exact(Kd.C_below HR2.out HB.out)|(with_reducible refine Kd.C_alloc ?_ _)|(with_reducible refine Kd.C_drewN ?_ _)|(with_reducible refine Kd.C_drew ?_)));(case side2=>exact HC2.out);rintro e w' ⟨rfl,⟨nd,rfl⟩⟩)))
    go_meet
    (case rel=>exact⟨_,(!t103),rs_,H',⟨by first|omega|exact Nat.le_refl _⟩,⟨bel_⟩⟩)
 case rest =>
  clear HC4;(try clear c1);(try clear p1);(try clear q1);(try clear hx1);(try clear qi1);(try clear c2);(try clear p2);(try clear c5);(try clear c5b0);(try clear c6);(try clear c6b0);(try clear c6b1);(try clear c7);(try clear c7b0);(try clear c7b1);(try clear c8);(try clear c8b0);(try clear c10);(try clear p10);(try clear q10);(try clear hx10);(try clear qi10);(try clear hx101_0);(try clear hx101_1);(try clear hx101_2);(try clear hx101_3);(try clear p101);(try clear q101);obtain⟨kq,x7_3,rfl,HA,HJ3,HB⟩:=hcut
  cases kq with
  | zero=>exact absurd HA.out (by simp[apply_check.j0])
  | succ kj3 =>
   have H:=HA.out;clear HA;(simp only[apply_check.j0] at H)
   by_cases c11:x7_3=true
   (· subst c11;have H1:=H;(rw[if_pos rfl] at H1);clear H;have H:=H1;clear H1;obtain rfl:=Option.some.inj H;go_wp2;go_ret;exact⟨by first|rfl|(simp[errW_none,errW_some] <;> rfl)|(simp[*,errW_none,errW_some] <;> rfl),bel_⟩)
   ·
    replace c11:=Bool.eq_false_iff.mpr c11;subst c11;have H1:=H;(rw[if_neg (show ¬ (false=true) by decide)] at H1);clear H;have H:=H1;clear H1;replace H:=Option.bind_eq_some_iff.mp H;obtain⟨t104,A120,H⟩:=H;(try dsimp only at H);have A12:=Aside0.mk A120;clear A120
    by_cases c13:t104=true
    (· subst c13;have H1:=H;(rw[if_pos rfl] at H1);clear H;have H:=H1;clear H1;obtain rfl:=Option.some.inj H;(go_wp2_with (first|((with_reducible refine gate_callee (f:=95) rfl ?_);refine goesL_ (some 31) rfl rfl Tryd.func95 (by kernel_rfl) rfl #[.slice A0 l0.length c0] rfl am_ ?_;(with_reducible refine(patch_May.calls kj3 _ _ l0 true _ ?side1 ?side2 A12.out).mono ?_);(case side1=>repeat(first|exact(Kd.C_below HR0.out HB.out)|(with_reducible refine Kd.C_alloc ?_ _)|(with_reducible refine Kd.C_drewN ?_ _)|(with_reducible refine Kd.C_drew ?_)));(case side2=>exact HC0.out);rintro e w14 ⟨rfl,hb⟩;refine⟨_,rfl,?_⟩;replace HB:=Aside0.mk (below_step bel_ hb);(try clear hb);(try clear hb2);(try clear hk);(try clear hi))));go_ret;exact⟨by first|rfl|(simp[errW_none,errW_some] <;> rfl)|(simp[*,errW_none,errW_some] <;> rfl),bel_⟩);(· replace c13:=Bool.eq_false_iff.mpr c13;subst c13;have H1:=H;(rw[if_neg (show ¬ (false=true) by decide)] at H1);clear H;have H:=H1;clear H1;obtain rfl:=Option.some.inj H;(go_wp2_with (first|((with_reducible refine gate_callee (f:=95) rfl ?_);refine goesL_ (some 31) rfl rfl Tryd.func95 (by kernel_rfl) rfl #[.slice A0 l0.length c0] rfl am_ ?_;(with_reducible refine(patch_May.calls kj3 _ _ l0 false _ ?side1 ?side2 A12.out).mono ?_);(case side1=>repeat(first|exact(Kd.C_below HR0.out HB.out)|(with_reducible refine Kd.C_alloc ?_ _)|(with_reducible refine Kd.C_drewN ?_ _)|(with_reducible refine Kd.C_drew ?_)));(case side2=>exact HC0.out);rintro e w15 ⟨rfl,hb⟩;refine⟨_,rfl,?_⟩;replace HB:=Aside0.mk (below_step bel_ hb);(try clear hb);(try clear hb2);(try clear hk);(try clear hi))));go_ret;exact⟨by first|rfl|(simp[errW_none,errW_some] <;> rfl)|(simp[*,errW_none,errW_some] <;> rfl),bel_⟩)
end Go.Proofs.YthcnfflhejogfaaDoor.X
namespace Go.Proofs.YthcnfflhejogfaaDoor.X
open Go.RowKit Go.Proofs.YthcnfflhejogfaaDoorW.PrintWords Go.Proofs.YthcnfflhejogfaaDoorW.PrintLast Go.Proofs.YthcnfflhejogfaaDoorW.PrintMore
def MaxAt (w:World):Prop:=0 < w.heap.size ∧ ∃ m:Int,w.cell? ⟨0,0,none⟩=some (.int .i64 m)
theorem MaxAt.below {w W:World} {B:Nat} (h:MaxAt w) (hb:Below B w W) (hB:0 < B):MaxAt W:=by
 obtain⟨h0,m,hm⟩:=h;exact⟨Nat.lt_of_lt_of_le h0 hb.size,m,by rw[hb.cell (p:=⟨0,0,none⟩) hB];exact hm⟩
theorem MaxAt.step {w W:World} (h:MaxAt w) (hb:Below w.heap.size w W):MaxAt W:=h.below hb h.1
theorem MaxAt.alloc {w:World} (h:MaxAt w) (o:Obj):MaxAt (w.alloc o):=h.step ((Below.refl _ w).alloc (Nat.le_refl _) o)
theorem MaxAt.drew {w:World} (h:MaxAt w):MaxAt w.drew:=h.step (Below.refl _ w).drew
section
variable {α:Type} {p:α→Bool} {L:List α}
end
abbrev Row57:=S57
def hasB (s:ByteArray) (c:UInt8):Bool:=decide (0≤Lib.indexByte s.data.toList c)
def oneB (q:Bool):Int:=if q=true then 1 else 0
def passL (s:ByteArray) (olds:List Int):List Int:=olds.mapIdx fun i n=>n+oneB (ofB (i:Int) s)
def CtAt (W:World) (g go:Nat) (olds:List Int) (n:Int):Prop :=
  W.heap[g]? = some (.cells #[.slice (some ⟨go,0,none⟩) olds.length olds.length, .int .i64 n] 90 (0,0))∧W.heap[go]? = some (.cells (olds.map (Value.int .i64)).toArray 3 (0,0))
def SameRest (W W':World):Prop:=W'.os=W.os∧W'.tape=W.tape∧W'.output=W.output
theorem SameRest.trans {W W1 W2:World} (h:SameRest W W1) (k:SameRest W1 W2):SameRest W W2:=⟨k.1.trans h.1,k.2.1.trans h.2.1,k.2.2.trans h.2.2⟩
structure Keeps2 (g go:Nat) (W W':World):Prop where
  size:W.heap.size≤W'.heap.size
  block : ∀ k,k < W.heap.size→k≠g→k≠go→W'.heap[k]? = W.heap[k]?
  rest:SameRest W W'
theorem Keeps2.refl (g go:Nat) (W:World):Keeps2 g go W W:=⟨Nat.le_refl _,fun _ _ _ _=>rfl,rfl,rfl,rfl⟩
theorem Keeps2.below {g go:Nat} {W W1 W2:World} (h:Keeps2 g go W W1) (hb:Below W1.heap.size W1 W2):Keeps2 g go W W2:=⟨Nat.le_trans h.1 hb.size,fun k hk h1 h2=>(hb.block k (by have:=h.1;omega)).trans (h.2 k hk h1 h2),h.3.trans ⟨hb.os,hb.tape,hb.output⟩⟩
theorem Keeps2.set {g go:Nat} {W W1:World} (h:Keeps2 g go W W1) {b:Nat} (hb:b=g∨b=go) (j:Nat) (v:Value):Keeps2 g go W (W1.setCell ⟨b,j,none⟩ v) :=
  ⟨by simpa [World.setCell] using h.1,fun k hk a c=>(heap_set_other (by rcases hb with rfl|rfl <;> assumption) _).trans (h.2 k hk a c),h.3.trans ⟨rfl,rfl,rfl⟩⟩
def PassI (w W:World) (g go:Nat) (s:ByteArray) (olds:List Int) (n:Int) (i:Nat):Prop :=
  Keeps2 g go w W∧CtAt W g go ((passL s olds).take i ++ olds.drop i) n
section
variable {w W W':World} {g go i:Nat} {s:ByteArray} {olds:List Int} {n:Int}
theorem CtAt.below (h:CtAt W g go olds n) (hb:Below W.heap.size W W'):CtAt W' g go olds n:=⟨farKeep h.1 hb,farKeep h.2 hb⟩
theorem PassI.below (h:PassI w W g go s olds n i) (hb:Below W.heap.size W W'):PassI w W' g go s olds n i:=⟨h.1.below hb,h.2.below hb⟩
end
abbrev Span45:=S45
def HunkI (w W:World) (g go:Nat) (olds:List Int) (n:Int) (m:Int) (vr:Value) (v:Value) (l:List Span45):Prop :=
  Keeps2 g go w W∧CtAt W g go olds m∧W.heap[w.heap.size]? = some (.cells #[.slice none 0 0, .int .i64 0, .int .i64 0, .slice none 0 0] 48 (0,0)) ∧
    W.heap[w.heap.size+1]? = some (.cells #[v, .int .i64 n, .int .i64 0,vr] 48 (0,0))∧Kd.R k45 45 W w.heap.size (fun _=>True) v l
theorem HunkI.below {w W W':World} {g go:Nat} {olds:List Int} {n m:Int} {vr v:Value} {l:List Span45} (h:HunkI w W g go olds n m vr v l) (hb:Below W.heap.size W W'):HunkI w W' g go olds n m vr v l:=by
 obtain⟨h1,h2,h3,h4,h5⟩:=h;exact⟨h1.below hb,h2.below hb,farKeep h3 hb,farKeep h4 hb,Kd.R_below h5 hb⟩
theorem Keeps2.trans {g go:Nat} {W W1 W2:World} (h:Keeps2 g go W W1) (k:Keeps2 g go W1 W2):Keeps2 g go W W2:=⟨Nat.le_trans h.1 k.1,fun j hj a b=>(k.2 j (Nat.lt_of_lt_of_le hj h.1) a b).trans (h.2 j hj a b),h.3.trans k.3⟩
def HunkJ (w W:World) (g go:Nat) (olds:List Int) (n m:Int) (vr v:Value) (l:List Span45):Prop :=
  Keeps2 g go w W∧CtAt W g go olds m∧W.heap[w.heap.size]? = some (.cells #[.slice none 0 0, .int .i64 0, .int .i64 0, .slice none 0 0] 48 (0,0)) ∧
    W.heap[w.heap.size+1]? = some (.cells #[v, .int .i64 n, .int .i64 m,vr] 48 (0,0))∧Kd.R k45 45 W w.heap.size (fun _=>True) v l
theorem HunkJ.put {w W W2:World} {g go gs:Nat} {olds:List Int} {n m:Int} {vr v:Value} {l l2:List Span45} (h:HunkJ w W g go olds n m vr v l) (hv:v.ownBlock=some gs) (hr:Kd.R k45 45 W2 w.heap.size (fun _=>True) v l2) (hg2:W.grownBy W2 (some gs)) (hg:g < w.heap.size) (hgo:go < w.heap.size):HunkJ w W2 g go olds n m vr v l2:=by
 obtain⟨h1,h2,h3,h4,h5⟩:=h;(rw[← hv] at hg2);refine⟨⟨?_,fun k hk a b=>?_,h1.3.trans ⟨hg2.os,hg2.tape,hg2.output⟩⟩,⟨(hg2.block _ (Array.getElem?_eq_some_iff.1 h2.1).1 (Kd.R_ne h5 h2.1 (by decide))).trans h2.1,(hg2.block _ (Array.getElem?_eq_some_iff.1 h2.2).1 (Kd.R_ne h5 h2.2 (by decide))).trans h2.2⟩,(hg2.block _ (Array.getElem?_eq_some_iff.1 h3).1 (Kd.R_ne h5 h3 (by decide))).trans h3,(hg2.block _ (Array.getElem?_eq_some_iff.1 h4).1 (Kd.R_ne h5 h4 (by decide))).trans h4,hr⟩;(· (have:=hg2.size;have:=h1.1;omega));(· refine(hg2.block k (Nat.lt_of_lt_of_le hk h1.1) (fun e=>?_)).trans (h1.2 k hk a b);have:=Kd.R_base h5 k e.symm;omega)
def set4 (W:World) (g:Nat) (a b c d:Value):World:=(((W.setCell ⟨g,0,none⟩ a).setCell ⟨g,1,none⟩ b).setCell ⟨g,2,none⟩ c).setCell ⟨g,3,none⟩ d
theorem set4_same {W:World} {g:Nat} {t:TypeId} {a b c d a' b' c' d':Value} (h:W.heap[g]? = some (.cells #[a,b,c,d] t (0,0))):(set4 W g a' b' c' d').heap[g]? = some (.cells #[a',b',c',d'] t (0,0)) :=
  heap_set_same (heap_set_same (heap_set_same (heap_set_same h _) _) _) _
theorem set4_other {W:World} {g k:Nat} {a b c d:Value} (h:k≠g):(set4 W g a b c d).heap[k]? = W.heap[k]? := by
 rw[set4,heap_set_other h,heap_set_other h,heap_set_other h,heap_set_other h]
def markB (x:Row57):Bool:=((⟨(Lib.trimS x.f0.data.toList [32]).toArray⟩:ByteArray).toList != ([]:List UInt8))
def groupEnd (rows:List Row57) (i:Nat):Nat:=i+((rows.drop i).takeWhile markB).length
theorem dropWhile_nil {α:Type} {p:α→Bool} : ∀ {l:List α},l.dropWhile p=[] ↔ ∀ b ∈ l,p b=true
 | []=>by simp
 | a :: l=>by
  rw[List.dropWhile_cons];split;(· (rename_i h;rw[dropWhile_nil];simp[h]));(· (rename_i h;simp[h]))
theorem trim_nil (l cs:List UInt8):Lib.trimS l cs=[] ↔ ∀ b ∈ l,cs.contains b=true:=by
 rw[Lib.trimS,Lib.trimLeftS,dropWhile_nil,Lib.trimRightS];constructor
 ·
  intro h b hb;have hb:b ∈ l.reverse:=List.mem_reverse.2 hb;(rw[← List.takeWhile_append_dropWhile (p:=fun x=>cs.contains x) (l:=l.reverse)] at hb)
  rcases List.mem_append.1 hb with h1|h1
  (· exact List.all_eq_true.1 (List.all_takeWhile (p:=fun x=>cs.contains x) (l:=l.reverse)) b h1);(· exact h b (List.mem_reverse.2 h1))
 (· intro h b hb;have hb:=List.mem_reverse.1 hb;exact h b (List.mem_reverse.1 ((List.dropWhile_sublist _).subset hb)))
theorem baToList (l:List UInt8):(⟨l.toArray⟩:ByteArray).toList=l:=by rw[Lib.toList_data]
def okC (c:UInt8):Bool:=c == 32 || (c == 43 || c == 45)
def hasC (s:ByteArray) (c:UInt8):Bool:=s.data.toList.any (· == c)
def mayRow (n:Nat) (x:RowH):Bool:=x.f0.data.toList.all okC && (decide (x.f0.size=n) && (!(hasC x.f0 43 && hasC x.f0 45) && mayL [x.f1]))
def mayB (rows:List RowH):Bool:=rows.all (fun x=>decide (1≤(rd_T57 rows 0).f0.size∧(rd_T57 rows 0).f0.size≤16) && mayRow (rd_T57 rows 0).f0.size x)
def LowT (rows:List RowH):Prop := ∀ x ∈ rows,x.f1.size≤1000000
theorem hasB_eq (s:ByteArray) (c:UInt8):hasB s c=hasC s c:=by
 rw[hasB,hasC,Bool.eq_iff_iff,decide_eq_true_eq,List.any_eq_true];constructor;(· intro h;obtain⟨o,ho⟩ : ∃ o:Nat,Lib.indexByte s.data.toList c=o:=⟨(Lib.indexByte s.data.toList c).toNat,by omega⟩;exact⟨c,List.mem_of_getElem? (Lib.indexByte_some ho).1,beq_self_eq_true c⟩)
 ·
  rintro⟨b,hb,he⟩;have he:=eq_of_beq he;subst he;have h1:=Lib.indexByte_ge s.data.toList b
  by_cases h2:Lib.indexByte s.data.toList b = -1
  (· obtain⟨k,hk,e⟩:=List.mem_iff_getElem.1 hb;exact(Lib.indexByte_none h2 k (by rw[List.getElem?_eq_getElem hk,e])).elim);(· omega)
theorem trim_chars (s:ByteArray):(⟨(Lib.trimS s.data.toList [32,43,45]).toArray⟩:ByteArray).toList=[]↔s.data.toList.all okC=true:=by
 rw[baToList,trim_nil,List.all_eq_true];constructor;(· intro h b hb;have:=h b hb;(simp at this);(simp[okC];exact this));(· intro h b hb;have:=h b hb;(simp[okC] at this);(simp;exact this))
theorem may_Hunk {rows:List RowH} (hz:Low rows) (ht:LowT rows) (hl:rows.length≤1000000):Gives (fun k=>hunk_May.f k rows) (mayB rows):=by
 obtain⟨n,hn⟩ : ∃ n,(rd_T57 rows 0).f0.size=n:=⟨_,rfl⟩
 have key : ∀ (r i:Nat),i+r=rows.length→Gives (fun k=>hunk_May.l0 k rows rows (rows.length:Int) (i:Int)) ((rows.drop i).all (fun x=>decide (1≤n∧n≤16) && mayRow n x)):=by
  intro r
  induction r with
  | zero =>
   intro i hi;rw[List.drop_of_length_le (by omega)];(refine Gives.of fun k=>?_);show hunk_May.l0 (k+1) rows rows (rows.length:Int) (i:Int)=_;(rw[hunk_May.l0,if_neg (by omega)];rfl)
  | succ r ih =>
   intro i hi;(have hil:i < rows.length:=by omega);have hzi:=hz _ (List.getElem_mem hil);have hmay:=may_gives [rows[i].f1] (by simp) (by have:=ht _ (List.getElem_mem hil);simp;omega);have hnx:=ih (i+1) (by omega);rw[dropCons hil,List.all_cons,mayRow];obtain⟨x,hx⟩ : ∃ x,rows[i]=x:=⟨_,rfl⟩;(have hrd:rd_T57 rows (i:Int)=x:=by rw[rdH hil,hx]);(rw[hx] at hzi hmay);rw[hx];(have ec1:strings_Contains.f x.f0 (⟨#[43]⟩:ByteArray)=some (hasC x.f0 43):=by rw[← hasB_eq];rfl);(have ec2:strings_Contains.f x.f0 (⟨#[45]⟩:ByteArray)=some (hasC x.f0 45):=by rw[← hasB_eq];rfl)
   have et:strings_Trim.f x.f0 (⟨#[32,43,45]⟩:ByteArray)=some ⟨(Lib.trimS x.f0.data.toList [32,43,45]).toArray⟩:=by
    rw[strings_Trim.f,if_pos ⟨by omega,by decide,by decide⟩]
   have htc:=trim_chars x.f0;obtain⟨tr,htr⟩ : ∃ tr,(⟨(Lib.trimS x.f0.data.toList [32,43,45]).toArray⟩:ByteArray)=tr:=⟨_,rfl⟩;(rw[htr] at et htc);obtain⟨p,hp⟩ : ∃ p,hasC x.f0 43=p:=⟨_,rfl⟩;obtain⟨q,hq⟩ : ∃ q,hasC x.f0 45=q:=⟨_,rfl⟩;(rw[hp] at ec1);(rw[hq] at ec2);rw[hp,hq]
   have e0 : ∀ k,hunk_May.l0 (k+1) rows rows (rows.length:Int) (i:Int) =
    if (x.f0.size:Int)=(n:Int) then (if (x.f0.size:Int) < 1 then some false else if (x.f0.size:Int) > 16 then some false else if tr.toList=[] then (if (p && q)=true then some false else (lines_May.f k [x.f1]).bind fun t=>if t=true then hunk_May.l0 k rows rows (rows.length:Int) ((i+1:Nat):Int) else some false) else some false) else some false:=fun k=>by
    rw[hunk_May.l0,if_pos (by omega),if_pos (by omega),if_pos (by omega),hrd,et,Option.bind_some,ec1,Option.bind_some,ec2,hn,gw1 (by omega)]
    cases p with
    | true =>
     rw[if_pos rfl,Option.bind_some,if_pos (by omega)];(cases q <;> rfl)
    | false =>
     rw[if_neg (by decide),if_pos (by omega)];rfl
   by_cases h1:x.f0.size=n
   ·
    by_cases h2:x.f0.size < 1
    ·
     refine(Gives.of (r:=false) fun k=>?_).eq ?_;(· show hunk_May.l0 (k+1) rows rows (rows.length:Int) (i:Int)=_;rw[e0,if_pos (by omega),if_pos (by omega)]);(· (rw[decide_eq_false (show ¬ (1≤n∧n≤16) by omega)];rfl))
    ·
     by_cases h3:16 < x.f0.size
     ·
      refine(Gives.of (r:=false) fun k=>?_).eq ?_;(· show hunk_May.l0 (k+1) rows rows (rows.length:Int) (i:Int)=_;rw[e0,if_pos (by omega),if_neg (by omega),if_pos (by omega)]);(· (rw[decide_eq_false (show ¬ (1≤n∧n≤16) by omega)];rfl))
     ·
      rw[decide_eq_true (show (1≤n∧n≤16) by omega),decide_eq_true h1,Bool.true_and,Bool.true_and]
      cases hc:x.f0.data.toList.all okC with
      | false =>
       rw[Bool.false_and,Bool.false_and];(refine Gives.of fun k=>?_);show hunk_May.l0 (k+1) rows rows (rows.length:Int) (i:Int)=_;rw[e0,if_pos (by omega),if_neg (by omega),if_neg (by omega),if_neg (fun h=>by rw[htc.1 h] at hc;cases hc)]
      | true =>
       rw[Bool.true_and]
       cases hpq:(p && q) with
       | true =>
        (refine Gives.of fun k=>?_);show hunk_May.l0 (k+1) rows rows (rows.length:Int) (i:Int)=_;(rw[e0,if_pos (by omega),if_neg (by omega),if_neg (by omega),if_pos (htc.2 hc),hpq,if_pos rfl];rfl)
       | false =>
        rw[Bool.not_false,Bool.true_and]
        cases hm:mayL [x.f1] with
        | false =>
         (rw[hm] at hmay);rw[Bool.false_and];(refine Gives.last hmay fun k hk=>?_);show hunk_May.l0 (k+1) rows rows (rows.length:Int) (i:Int)=_;(rw[e0,if_pos (by omega),if_neg (by omega),if_neg (by omega),if_pos (htc.2 hc),hpq,if_neg (by decide),hk];rfl)
        | true =>
         (rw[hm] at hmay);rw[Bool.true_and];(rw[decide_eq_true (show (1≤n∧n≤16) by omega)] at hnx);(refine Gives.call hmay hnx fun k hk=>?_);show hunk_May.l0 (k+1) rows rows (rows.length:Int) (i:Int)=_;rw[e0,if_pos (by omega),if_neg (by omega),if_neg (by omega),if_pos (htc.2 hc),hpq,if_neg (by decide),hk,Option.bind_some,if_pos rfl]
   ·
    refine(Gives.of (r:=false) fun k=>?_).eq ?_;(· show hunk_May.l0 (k+1) rows rows (rows.length:Int) (i:Int)=_;rw[e0,if_neg (by omega)]);(· rw[decide_eq_false h1,Bool.false_and,Bool.and_false,Bool.and_false,Bool.false_and])
 (refine((key rows.length 0 (by omega)).eq ?_).same fun k=>rfl);(rw[mayB,hn];rfl)
attribute [local go_sem] Oper.semAt_some
section
variable {F:Fence} {nF:Nat} {P:Program} {ops:Array Oper} {rest:List Oper} {o:Oper} {a:Act} {Q:Exit→Act→World→Prop}
end
theorem R_putObj {α:Type} {d:Kd α} {W:World} {e base r:Nat} {ok:Nat→Prop} {v:Value} {xs:List α} {o:Obj} (h:Kd.R d e W base ok v xs) (o':Obj) (hl:W.heap[r]? = some o) (ho:o.isCells=false):Kd.R d e (W.putObj r o') base ok v xs:=by
 refine Kd.R_mono (Kd.R_step (Kd.R_bound h) (fun k hk hlt=>?_)) (fun _ hk=>hk.1);refine(grownBy_putObj' W r o').block k hlt (fun e=>?_);cases e;obtain⟨_,_,_,q,hq,cells,hc⟩:=hk;(rw[hc] at hl);cases hl;cases ho
theorem putKeep {W:World} {r k:Nat} {o o':Obj} {cs:Array Value} {t:TypeId} {fr:Nat × Nat} (h:W.heap[k]? = some (.cells cs t fr)) (hl:W.heap[r]? = some o) (ho:o.isCells=false):(W.putObj r o').heap[k]? = some (.cells cs t fr):=by
 refine((grownBy_putObj' W r o').block k (blk_lt h) (fun e=>?_)).trans h;cases e;(rw[h] at hl);cases hl;cases ho
def GrI (w:World) (A:Option Addr) (n c:Nat) (s:List Span45) (W:World):Prop :=
  Below w.heap.size w W∧W.heap[w.heap.size+1]? = some (.cells #[.slice A n c] 36 (0,0)) ∧ ∃ v,W.heap[w.heap.size]? = some (.cells #[v] 46 (0,0))∧Kd.R k45 45 W w.heap.size (fun _=>True) v s
theorem GrI.below {w W W':World} {A:Option Addr} {n c:Nat} {s:List Span45} (h:GrI w A n c s W) (hb:Below W.heap.size W W'):GrI w A n c s W':=by
 obtain⟨h1,h2,v,h3,h4⟩:=h;exact⟨far_ h1 hb,farKeep h2 hb,v,farKeep h3 hb,Kd.R_below h4 hb⟩
theorem GrI.put {w W:World} {A:Option Addr} {n c:Nat} {s:List Span45} (h:GrI w A n c s W) {r:Nat} {o:Obj} (o':Obj) (hr:w.heap.size≤r) (hl:W.heap[r]? = some o) (ho:o.isCells=false):GrI w A n c s (W.putObj r o'):=by
 obtain⟨h1,h2,v,h3,h4⟩:=h;exact⟨h1.grown (grownBy_putObj' W r o') h1.size (fun k e=>by cases e;exact hr),putKeep h2 hl ho,v,putKeep h3 hl ho,R_putObj h4 o' hl ho⟩
end Go.Proofs.YthcnfflhejogfaaDoor.X
namespace Go.Proofs.YthcnfflhejogfaaDoor.X
open Go.RowKit Go.Proofs.YthcnfflhejogfaaDoorW.PrintWords Go.Proofs.YthcnfflhejogfaaDoorW.PrintLast Go.Proofs.YthcnfflhejogfaaDoorW.PrintMore
abbrev Hunk48:=S48
theorem own_raw {W:World} {base e g n:Nat} {xs:List Value} (h:W.ownsRow base e 1 (.slice (some ⟨g,0,none⟩) n n) n xs):W.heap[g]? = some (.cells xs.toArray e (0,0)):=by
 obtain⟨h1,h2|⟨g',cap,cur,he,_,hc,_,_,hs,ht⟩⟩:=h;(· cases h2.1);(· (injection he with a _ b);(cases a;subst b);rw[hc];rw[← ht,List.take_of_length_le (by rw[Array.length_toList,hs];exact Nat.le_refl _)])
theorem setCell_same {W:World} {g j:Nat} {cs:Array Value} {t:TypeId} {v:Value} (h:W.heap[g]? = some (.cells cs t (0,0))) (hv:cs[j]? = some v):W.setCell ⟨g,j,none⟩ v=W:=by
 have hlt:=(Array.getElem?_eq_some_iff.1 h).1;have hj:=(Array.getElem?_eq_some_iff.1 hv).1
 have e:W.heap.modify g (fun | .cells c elem frozen => .cells (if (none:Option Nat).isSome then c else c.setIfInBounds j v) elem frozen|o=>o)=W.heap:=by
  apply Array.ext_getElem?;intro k;rw[Array.getElem?_modify];split
  ·
   rename_i e;subst e;rw[h];simp only[Option.map_some,Option.isSome_none,Bool.false_eq_true, ↓reduceIte,Option.some.injEq,Obj.cells.injEq,and_true];apply Array.ext_getElem?;intro k;rw[Array.getElem?_setIfInBounds];split;(· rename_i e;subst e;exact hv.symm);(· rfl)
  (· rfl)
 unfold World.setCell;cases W;simp only[World.mk.injEq,and_true];exact e
theorem setCells_same {W:World} {g:Nat} {cs:Array Value} {t:TypeId} (h:W.heap[g]? = some (.cells cs t (0,0))) : ∀ (vs:List Value) (o:Nat),(∀ j v,vs[j]? = some v→cs[o+j]? = some v)→W.setCells g o vs=W
 | [],_,_=>rfl
 | v :: vs,o,hv=>by
  rw[World.setCells,setCell_same h (by simpa using hv 0 v rfl)];exact setCells_same h vs (o+1) (fun j u hu=>by have:=hv (j+1) u (by simpa using hu);rwa [show o+(j+1)=o+1+j by omega] at this)
def BoxH (w:World) (v:Value) (x:Int) (dense:Bool) (W:World):Prop :=
  W.heap[w.heap.size]? = some (.cells #[v] 36 (0,0))∧W.heap[w.heap.size+1]? = some (.cells #[.int .i64 x] 3 (0,0))∧W.heap[w.heap.size+1+1]? = some (.cells #[.bool dense] 4 (0,0))
theorem BoxH.below {w W W':World} {v:Value} {x:Int} {dense:Bool} (h:BoxH w v x dense W) (hb:Below W.heap.size W W'):BoxH w v x dense W':=⟨farKeep h.1 hb,farKeep h.2.1 hb,farKeep h.2.2 hb⟩
def ShI (w:World) (gs:Nat) (v:Value) (n:Nat) (x:Int) (dense:Bool) (s:List Bool) (W:World):Prop :=
  Below w.heap.size w W∧BoxH w v x dense W∧w.heap.size+1+1 < gs∧s.length=n∧W.heap[gs]? = some (.cells (s.map Value.bool).toArray 4 (0,0)) ∧
    W.heap[gs+1]? = some (.cells #[.slice (some ⟨gs,0,none⟩) n n] 83 (0,0))∧W.heap[gs+1+1]? = some (.cells #[v] 36 (0,0))
theorem ShI.below {w W W':World} {gs n:Nat} {v:Value} {x:Int} {dense:Bool} {s:List Bool} (h:ShI w gs v n x dense s W) (hb:Below W.heap.size W W'):ShI w gs v n x dense s W' :=
  ⟨far_ h.1 hb,h.2.1.below hb,h.2.2.1,h.2.2.2.1,farKeep h.2.2.2.2.1 hb,farKeep h.2.2.2.2.2.1 hb,farKeep h.2.2.2.2.2.2 hb⟩
theorem ShI.put {w W:World} {gs n:Nat} {v:Value} {x:Int} {dense:Bool} {s:List Bool} (h:ShI w gs v n x dense s W) {r:Nat} {o:Obj} (o':Obj) (hr:w.heap.size≤r) (hl:W.heap[r]? = some o) (ho:o.isCells=false):ShI w gs v n x dense s (W.putObj r o'):=by
 obtain⟨h1,⟨a,b,c⟩,h2,h3,h4,h5,h6⟩:=h;exact⟨h1.grown (grownBy_putObj' W r o') h1.size (fun k e=>by cases e;exact hr),⟨putKeep a hl ho,putKeep b hl ho,putKeep c hl ho⟩,h2,h3,putKeep h4 hl ho,putKeep h5 hl ho,putKeep h6 hl ho⟩
theorem ShI.shown {w W W':World} {gs n:Nat} {v:Value} {x:Int} {dense:Bool} {s s':List Bool} {ok:Nat→Prop} (h:ShI w gs v n x dense s W) (hk:Kept W W' (fun k=>k=gs)) (hb:Below w.heap.size w W') (hr:Kd.R Kd.bool 4 W' w.heap.size ok (.slice (some ⟨gs,0,none⟩) n n) s') (hl:s'.length=n):ShI w gs v n x dense s' W'∧KeepsOthers W W':=by
 obtain⟨h1,⟨a,b,c⟩,h2,h3,h4,h5,h6⟩:=h;(have keep : ∀ {k:Nat} {o:Obj},W.heap[k]? = some o→k≠gs→W'.heap[k]? = some o:=fun {k o} h hne=>(hk.2 k (Array.getElem?_eq_some_iff.1 h).1 hne).trans h);have ho:=Kd.own_of_R hr;(rw[hl] at ho);refine⟨⟨hb,⟨keep a (by omega),keep b (by omega),keep c (by omega)⟩,h2,hl,own_raw ho,keep h5 (by omega),keep h6 (by omega)⟩,hk.1,fun k o hko ho=>?_⟩;refine keep hko (fun e=>?_);subst e;(rw[h4] at hko);cases hko;cases ho
structure HuI (P:Nat→Prop) (w:World) (gs B d:Nat) (v:Value) (n:Nat) (x:Int) (dense:Bool) (sh:List Bool) (olds:List Int) (m:Int) (out:List Hunk48) (vo:Value) (W:World):Prop where
  bel:Below w.heap.size w W
  box:BoxH w v x dense W
  lo:w.heap.size+1+1 < gs
  hi:gs+1 < B
  top:B+1 < W.heap.size
  shown:W.heap[gs]? = some (.cells (sh.map Value.bool).toArray 4 (0,0))
  at8:W.heap[gs+1]? = some (.cells #[.slice (some ⟨gs,0,none⟩) n n] 83 (0,0))
  def_:W.heap[d]? = some (.deferred (some []))
  dlt:d < B
  ct:CtAt W (B+1) B olds m
  rows:Kd.N k48 48 W (B+1+1) (fun k=>(P k∧k < w.heap.size)∨B+1+1≤k) vo out
section
variable {P:Nat→Prop} {w:World} {gs B d:Nat} {v:Value} {n:Nat} {x:Int} {dense:Bool} {sh:List Bool} {olds olds':List Int} {m m':Int} {out:List Hunk48} {vo:Value} {W W':World}
theorem HuI.alloc (h:HuI P w gs B d v n x dense sh olds m out vo W) (hb:Below W.heap.size W W'):HuI P w gs B d v n x dense sh olds m out vo W' :=
  ⟨far_ h.bel hb,h.box.below hb,h.lo,h.hi,Nat.lt_of_lt_of_le h.top hb.size,farKeep h.shown hb,farKeep h.at8 hb,farKeep h.def_ hb,h.dlt,h.ct.below hb,Kd.N_below h.rows hb⟩
end
theorem HuI.fresh {P:Nat→Prop} {w:World} {gs B d:Nat} {v:Value} {n:Nat} {x:Int} {dense:Bool} {sh:List Bool} {olds:List Int} {m:Int} {out:List Hunk48} {vo:Value} {W W2:World} (h:HuI P w gs B d v n x dense sh olds m out vo W) (hb:Below w.heap.size w W2) {A:Option Addr} {hk:Hunk48} (hF:Kd.F k57 w P A hk.f2.length hk.f2) {v2:Value} (hr:Kd.R k45 45 W2 W.heap.size (fun _=>True) v2 hk.f0) {c:Nat} (hc:hk.f2.length≤c) :
    Kd.FK k48 W2 (fun k=>(P k∧k < w.heap.size)∨W.heap.size≤k) hk [v2, .int .i64 hk.f1.f0, .int .i64 hk.f1.f1, .slice A hk.f2.length c] ∧ ∀ k,((P k∧k < w.heap.size)∨W.heap.size≤k)→((P k∧k < w.heap.size)∨B+1+1≤k)∧some k≠vo.ownBlock:=by
 obtain⟨A2,c2,rfl⟩:=Kd.R_slice hr;have hr2:=Kd.R_bound hr;have h3:=h.top;refine⟨k48_mkF _ _ hk (Kd.R_reads' hr).2.1 (Kd.F_mono (Kd.R_F hr2) (fun k hk => .inr hk.2.1)) hc (Kd.F_mono (Kd.F_below (Kd.F_bound hF) hb) (fun k hk => .inl hk)),fun k hk=>?_⟩
 have hne:some k≠vo.ownBlock:=fun e=>by
  have h1:=Kd.N_base h.rows k e.symm;obtain⟨cs,hc⟩:=Kd.N_typed h.rows k e.symm;have h2:=(Array.getElem?_eq_some_iff.1 hc).1;have h4:=h.lo;have h5:=h.hi;omega
 refine⟨?_,hne⟩
 rcases hk with hk|hk
 (· exact .inl hk);(· exact .inr (by omega))
end Go.Proofs.YthcnfflhejogfaaDoor.X
namespace Go.Proofs.YthcnfflhejogfaaDoor.X
open Go
theorem handed_and_shaped {H:Type} {enc:TypeId × Value→H} {a:Assume} {C:Checked} {os:Os} {f:FuncId} {fn:Func} {s:ChangeSpec} {conds:List PathCond} {apart fresh handsOn again:Bool} {X:World→Array Value→Prop}
    (hX : ∀ (w w':World) (args:Array Value),w.heap=w'.heap→X w args→X w' args)
    (own:ownKnob C.prog.godebug=none) (started:os.Started) (noInit:C.prog.inits.idxOf? f=none) (hfn:C.prog.funcs[f]? = some fn)
    (witness : ∃ (w:World) (tape:Tape) (i:Input),w.os=os∧(w.forCall tape i).Shaped C.prog∧i.vars=[]∧Input.okWide C.prog (w.forCall tape i) .any w.heap.size f i ∧
      ((s.pre enc C.prog fn conds apart (w.forCall tape i).memory i.args∧X (w.forCall tape i).memory i.args)∧sizedMet enc C.prog fn (OpenSpec.ofChange s) apart (w.forCall tape i).memory i.args)∧a.holds C.prog (lone (Frame.enter C.prog f i.args .normal) [] (w.forCall tape i)))
    (contract : ∀ (W:World) (base:Nat) (args:Array Value) (ds gs:List (DataW H)) (before:List MemPlace),
      (∀ (j:Nat) t v,fn.params[j]? = some t→args[j]? = some v→Value.okWide C.prog W .any base t v) →
      DataW.Whole enc C.prog fn.params.toList s.vars apart W args.toList ds gs before →
      conds.all (PathCond.test C.prog ⟨fn.params.toList,ds,s.plain.varTypes C.prog,gs⟩)=true →
      (DataW.weightsEach C.prog (fn.params.toList ++ s.plain.varTypes C.prog) (ds ++ gs)).all (· ≤ reachBytes)=true→X W args→W.ShapedOpen C.prog →
      a.holds C.prog (lone (Frame.enter C.prog f args .normal) [] W) →
      Calls C.prog f args W fun e W' => ∃ v,e = .returned v∧s.post enc C.prog fn apart fresh handsOn again W args v W') :
    ReturnsInHanded a C os f .any (fun w args=>(s.pre enc C.prog fn conds apart w args∧X w args)∧sizedMet enc C.prog fn (OpenSpec.ofChange s) apart w args) (s.post enc C.prog fn apart fresh handsOn again):=by
  refine returnsInHanded_of_calls own started noInit witness ?_
  intro w tape i _ hsh _ hok hpre hholds
  obtain⟨_,_,_,fn',hfn',_,_,_,_,hval⟩:=hok
  have e:fn'=fn:=Option.some.inj (hfn'.symm.trans hfn)
  subst e
  obtain⟨⟨⟨ds,gs,before,hw,hc⟩,hx⟩,hz⟩:=hpre
  have hw':=DataW.Whole.of_heap (w':=w.forCall tape i) (by rfl) hw
  refine(contract (w.forCall tape i) w.heap.size i.args ds gs before hval hw' hc (hz.weights hw) (hX _ _ _ (by rfl) hx) hsh hholds).mono fun e W' ⟨v,he,hp⟩=>?_
  subst he
  exact ChangeSpec.post_blind hp
theorem max_of_shape {w:World} (h:w.ShapedOpen Tryd.prog):MaxAt w:=by
 obtain⟨m,hm⟩:=Go.Proofs.cell_of_shapedOpen_int (P:=Tryd.prog) (g:=0) (t:=3) (zero:=#[.int .i64 0]) h (of_decide_eq_true (by kernel_rfl)) (by kernel_rfl) rfl (by kernel_rfl) (by kernel_rfl) Tryd.underlying3;exact⟨World.block_lt_of_cell? w _ hm,m,hm⟩
end Go.Proofs.YthcnfflhejogfaaDoor.X
namespace Go.Proofs.YthcnfflhejogfaaDoor.X
open Go.RowKit Go.Proofs.YthcnfflhejogfaaDoorW.PrintWords Go.Proofs.YthcnfflhejogfaaDoorW.PrintLast Go.Proofs.YthcnfflhejogfaaDoorW.PrintMore
def GoodR (n:Nat) (rows:List RowH):Prop := ∀ x ∈ rows,x.f0.size=n∧x.f0.data.toList.all okC=true
theorem Gives.of' {α:Type} {f:Nat→Option α} {r:α} (N:Nat) (h : ∀ k,N≤k→f (k+1)=some r):Gives f r:=⟨N+1,fun k hk=>by obtain⟨j,rfl⟩ : ∃ j,k=j+1:=⟨k - 1,by omega⟩;exact h j (by omega)⟩
theorem mayB_good {rows:List RowH} (h:mayB rows=true):GoodR (rd_T57 rows 0).f0.size rows∧(rows≠[]→1≤(rd_T57 rows 0).f0.size∧(rd_T57 rows 0).f0.size≤16):=by
 (rw[mayB,List.all_eq_true] at h);constructor;(· intro x hx;have:=h x hx;(rw[mayRow,Bool.and_eq_true,Bool.and_eq_true,Bool.and_eq_true,decide_eq_true_eq,decide_eq_true_eq] at this);exact⟨this.2.2.1,this.2.1⟩);(· intro hn;obtain⟨x,l,rfl⟩ : ∃ x l,rows=x :: l:=List.exists_cons_of_ne_nil hn;have:=h x List.mem_cons_self;(rw[Bool.and_eq_true,decide_eq_true_eq] at this);exact this.1)
theorem MaxAt.go {w W:World} (h:Aside0 (MaxAt w)) (hb:Below w.heap.size w W):MaxAt W:=h.out.step hb
def lowB (rows:List RowH):Bool:=decide (rows.length≤1000000) && rows.all (fun x=>decide (x.f0.size≤1000000) && decide (x.f1.size≤1000000))
theorem lowB_iff {rows:List RowH} (h:lowB rows=true):rows.length≤1000000∧Low rows∧LowT rows:=by
 (rw[lowB,Bool.and_eq_true,decide_eq_true_eq,List.all_eq_true] at h);refine⟨h.1,fun x hx=>?_,fun x hx=>?_⟩;(· (have:=h.2 x hx;rw[Bool.and_eq_true,decide_eq_true_eq,decide_eq_true_eq] at this;exact this.1));(· (have:=h.2 x hx;rw[Bool.and_eq_true,decide_eq_true_eq,decide_eq_true_eq] at this;exact this.2))
theorem lowB_mk {rows:List RowH} (h1:rows.length≤1000000) (h2:Low rows) (h3:LowT rows):lowB rows=true:=by
 rw[lowB,Bool.and_eq_true,decide_eq_true_eq,List.all_eq_true];exact⟨h1,fun x hx=>by rw[Bool.and_eq_true,decide_eq_true_eq,decide_eq_true_eq];exact⟨h2 x hx,h3 x hx⟩⟩
abbrev ApiRow:=S57
theorem apiRow_ext {x y:ApiRow} (h0:x.f0=y.f0) (h1:x.f1=y.f1):x=y:=by
 (cases x;cases y;cases h0;cases h1;rfl)
instance apiRowDec:DecidableEq ApiRow:=fun x y=>decidable_of_iff (x.f0=y.f0∧x.f1=y.f1) ⟨fun h=>apiRow_ext h.1 h.2,fun h=>by rw[h];exact⟨rfl,rfl⟩⟩
section
variable {R:List ApiRow}
theorem col_f (i:Int) (hR:R.length≤1000000000) (hz : ∀ x ∈ R,x.f0.size≤1000000000):table_Column.f R i=some ((R.filter (fun x=>ofB i x.f0)).map (·.f1)):=by
 rw[table_Column.f,if_pos ⟨hR,fun x hx=>by have:=hz x hx;omega⟩]
theorem res_f (hR:R.length≤1000000000) (hz : ∀ x ∈ R,x.f0.size≤1000000000):table_Result.f R=some ((R.filter (fun x => !lostB x.f0)).map (·.f1)):=by
 rw[table_Result.f,if_pos ⟨hR,fun x hx=>by have:=hz x hx;omega⟩]
end
def FewR (rows:List RowH):Prop:=rows.length≤40 ∧ ∀ x ∈ rows,x.f0.size≤20∧x.f1.size≤100
def fewRB (rows:List RowH):Bool:=decide (rows.length≤40) && rows.all (fun x=>decide (x.f0.size≤20) && decide (x.f1.size≤100))
theorem fewRB_iff {rows:List RowH} (h:fewRB rows=true):FewR rows:=by
 (rw[fewRB,Bool.and_eq_true,decide_eq_true_eq,List.all_eq_true] at h);refine⟨h.1,fun x hx=>?_⟩;(have:=h.2 x hx;rw[Bool.and_eq_true,decide_eq_true_eq,decide_eq_true_eq] at this;exact this)
theorem FewR.low {rows:List RowH} (h:FewR rows):lowB rows=true:=lowB_mk (by have:=h.1;omega) (fun x hx=>by have:=h.2 x hx;omega) (fun x hx=>by have:=h.2 x hx;omega)
theorem ref_FewH_l0 (rows:List RowH) : ∀ (r i k:Nat),i+r=41→2 * r+2≤k→sennitref21_Few.l0 k rows (i:Int)=some (decide (rows.length≤40) && (rows.drop i).all (fun x=>decide (x.f0.size≤20) && decide (x.f1.size≤100)))
 | 0,i,k+2,hi,hk=>by
  rw[sennitref21_Few.l0]
  by_cases h:(i:Int) < rows.length
  (· (rw[if_pos h,decide_eq_false (show ¬ ((i:Int) < 41) by omega),sennitref21_Few.j1,if_neg (by decide),decide_eq_false (show ¬ ((rows.length:Int)≤40) by omega),decide_eq_false (show ¬ rows.length≤40 by omega)];rfl))
  ·
   rw[if_neg h,sennitref21_Few.j1,if_neg (by decide),List.drop_of_length_le (by omega),List.all_nil,Bool.and_true]
   congr 1
   (rw[decide_eq_decide];omega)
 | r+1,i,k+2,hi,hk=>by
  rw[sennitref21_Few.l0]
  by_cases h:(i:Int) < rows.length
  ·
   (have hil:i < rows.length:=by omega);rw[if_pos h,decide_eq_true (show ((i:Int) < 41) by omega),sennitref21_Few.j1,if_pos rfl,if_pos (by omega),if_pos h,rdH hil,dropCons hil,List.all_cons]
   by_cases h2:20 < rows[i].f0.size
   (· (rw[if_pos (by omega),decide_eq_false (show ¬ rows[i].f0.size≤20 by omega)];simp))
   ·
    by_cases h3:100 < rows[i].f1.size
    (· (rw[if_neg (by omega),if_pos (by omega),decide_eq_false (show ¬ rows[i].f1.size≤100 by omega)];simp));(· (rw[if_neg (by omega),if_neg (by omega),gw1 (by omega),ref_FewH_l0 rows r (i+1) k (by omega) (by omega),decide_eq_true (show rows[i].f0.size≤20 by omega),decide_eq_true (show rows[i].f1.size≤100 by omega)];rfl))
  ·
   rw[if_neg h,sennitref21_Few.j1,if_neg (by decide),List.drop_of_length_le (by omega),List.all_nil,Bool.and_true]
   congr 1
   (rw[decide_eq_decide];omega)
theorem ref_FewH (rows:List RowH):Gives (fun k=>sennitref21_Few.f k rows) (fewRB rows):=⟨84,fun k hk=>by
  show sennitref21_Few.l0 k rows ((0:Nat):Int)=_
  rw[ref_FewH_l0 rows 41 0 k (by omega) (by omega)];rfl⟩
end Go.Proofs.YthcnfflhejogfaaDoor.X
namespace Go.Proofs.YthcnfflhejogfaaDoor.X.T20
open Go.RowKit Go.Proofs.YthcnfflhejogfaaDoorW.PrintWords Go.Proofs.YthcnfflhejogfaaDoorW.PrintLast Go.Proofs.YthcnfflhejogfaaDoorW.PrintMore
section InternMath_sec
def place (s:ByteArray):List ByteArray→Nat
  | []=>0
  | x :: xs=>if x=s then 0 else place s xs+1
def addT (t:List ByteArray) (s:ByteArray):List ByteArray:=if place s t < t.length then t else t ++ [s]
theorem place_get (s:ByteArray) : ∀ {t:List ByteArray} (h:place s t < t.length),t[place s t]=s
 | [],h=>by simp[place] at h
 | x :: xs,h=>by
  by_cases e:x=s
  (· simp[place,e]);(· (have h':place s xs < xs.length:=by simpa [place,e] using h);simp only[place,e,if_false,List.getElem_cons_succ];exact place_get s h')
theorem place_mem (s:ByteArray) : ∀ {t:List ByteArray},s ∈ t↔place s t < t.length
 | []=>by simp[place]
 | x :: xs=>by
  by_cases e:x=s
  (· simp[place,e]);(· (have e' : ¬ s=x:=fun h=>e h.symm);simp[place,e,e',place_mem s (t:=xs)])
def idsOne:List ByteArray→List ByteArray→List ByteArray × List Int
  | t,[]=>(t,[])
  | t,s :: l=>((idsOne (addT t s) l).1,(place s t:Int) :: (idsOne (addT t s) l).2)
def idsMany:List ByteArray→List (List ByteArray)→List (List Int)
  | _,[]=>[]
  | t,l :: ls=>(idsOne t l).2 :: idsMany (idsOne t l).1 ls
def idsAll (files:List (List ByteArray)):List (List Int):=idsMany [] files
theorem idsOne_length : ∀ (t l:List ByteArray),(idsOne t l).2.length=l.length
 | t,[]=>rfl
 | t,s :: l=>by simp[idsOne,idsOne_length (addT t s) l]
end InternMath_sec
section LcsMath_sec
def lcsL:List Int→List Int→Nat
  | [],_=>0
  | _ :: _,[]=>0
  | x :: xs,y :: ys=>if x=y then lcsL xs ys+1 else max (lcsL xs (y :: ys)) (lcsL (x :: xs) ys)
  termination_by a b=>a.length+b.length
@[simp] theorem lcsL_nil_left (b:List Int):lcsL [] b=0:=by unfold lcsL;rfl
@[simp] theorem lcsL_nil_right (a:List Int):lcsL a []=0:=by cases a <;> (unfold lcsL;rfl)
theorem lcsL_cons (x y:Int) (xs ys:List Int):lcsL (x :: xs) (y :: ys)=if x=y then lcsL xs ys+1 else max (lcsL xs (y :: ys)) (lcsL (x :: xs) ys):=by
 rw[lcsL]
def matchFrom:List Int→List Int→Nat→List Int
  | [],_,_=>[]
  | _ :: xs,[],j => -1 :: matchFrom xs [] j
  | x :: xs,y :: ys,j=>if x=y then (j:Int) :: matchFrom xs ys (j+1) else if lcsL (x :: xs) ys≤lcsL xs (y :: ys) then -1 :: matchFrom xs (y :: ys) j else matchFrom (x :: xs) ys (j+1)
  termination_by a b _=>a.length+b.length
def matchOf (a b:List Int):List Int:=matchFrom a b 0
theorem matchFrom_nil (b:List Int) (j:Nat):matchFrom [] b j=[]:=by unfold matchFrom;rfl
theorem matchFrom_none (x:Int) (xs:List Int) (j:Nat):matchFrom (x :: xs) [] j = -1 :: matchFrom xs [] j:=by rw[matchFrom]
theorem matchFrom_cons (x y:Int) (xs ys:List Int) (j:Nat):matchFrom (x :: xs) (y :: ys) j=if x=y then (j:Int) :: matchFrom xs ys (j+1) else if lcsL (x :: xs) ys≤lcsL xs (y :: ys) then -1 :: matchFrom xs (y :: ys) j else matchFrom (x :: xs) ys (j+1):=by rw[matchFrom]
theorem matchFrom_rest (a:List Int) (j:Nat):matchFrom a [] j=List.replicate a.length (-1):=by
 induction a with
 | nil=>rw[matchFrom_nil];rfl
 | cons x a ih=>rw[matchFrom_none,ih];rfl
theorem matchFrom_length (a b:List Int) (j:Nat):(matchFrom a b j).length=a.length:=by
 match a,b with
 | [],b=>simp[matchFrom_nil]
 | x :: xs,[]=>simp[matchFrom_rest]
 | x :: xs,y :: ys =>
  rw[matchFrom_cons];split;(· simp[matchFrom_length xs ys])
  ·
   split;(· simp[matchFrom_length xs (y :: ys)]);(· exact matchFrom_length (x :: xs) ys _)
 termination_by a.length+b.length
def Rises (a b:List Int) (j:Nat):List Int→Nat→Prop
  | [],n=>n=0∧True
  | m :: ms,n=>(m = -1∧Rises a.tail b j ms n)∨(∃ k n',m=((j+k:Nat):Int)∧n=n'+1∧b[k]? = a.head? ∧ a≠[]∧Rises a.tail (b.drop (k+1)) (j+k+1) ms n')
theorem rises_shift {a b:List Int} {j:Nat} {y:Int} : ∀ {ms:List Int} {n:Nat},ms.length=a.length→Rises a b (j+1) ms n→Rises a (y :: b) j ms n:=by
 intro ms
 induction ms generalizing a with
 | nil=>intro n _ h;exact h
 | cons m ms ih =>
  intro n hl h
  rcases h with ⟨h1,h2⟩|⟨k,n',h1,h2,h3,h4,h5⟩
  (· exact .inl ⟨h1,ih (by simp at hl ⊢;omega) h2⟩);(· exact .inr ⟨k+1,n',by rw[h1];congr 1;omega,h2,by simpa using h3,h4,by rw[show j+(k+1)+1=j+1+k+1 from by omega];simpa using h5⟩)
theorem matchFrom_rises (a b:List Int) (j:Nat):Rises a b j (matchFrom a b j) (lcsL a b):=by
 match a,b with
 | [],b=>rw[matchFrom_nil,lcsL_nil_left];exact⟨rfl,trivial⟩
 | x :: xs,[] =>
  rw[matchFrom_none,lcsL_nil_right];have:=matchFrom_rises xs [] j;(rw[lcsL_nil_right] at this);exact .inl ⟨rfl,this⟩
 | x :: xs,y :: ys =>
  rw[matchFrom_cons,lcsL_cons]
  by_cases e:x=y
  (· subst e;rw[if_pos rfl,if_pos rfl];exact .inr ⟨0,lcsL xs ys,by simp,rfl,by simp,by simp,by simpa using matchFrom_rises xs ys (j+1)⟩)
  ·
   rw[if_neg e,if_neg e]
   by_cases h:lcsL (x :: xs) ys≤lcsL xs (y :: ys)
   (· rw[if_pos h,Nat.max_eq_left h];exact .inl ⟨rfl,matchFrom_rises xs (y :: ys) j⟩);(· rw[if_neg h,Nat.max_eq_right (by omega)];exact rises_shift (matchFrom_length _ _ _) (matchFrom_rises (x :: xs) ys (j+1)))
 termination_by a.length+b.length
end LcsMath_sec
section Lcs4_sec
open Go.RowKit Go.Proofs.YthcnfflhejogfaaDoorW.PrintWords Go.Proofs.YthcnfflhejogfaaDoorW.PrintLast Go.Proofs.YthcnfflhejogfaaDoorW.PrintMore
section
variable {w W:World} {g g3 g0 g1 gs:Nat} {sa sb x2 x3 x4:Value} {nm m:Nat} {L0 L1 S:List Int}
end
theorem place_div {m i j:Nat} (hj:j < m):(i * m+j) / m=i∧(i * m+j) % m=j:=by
 constructor;(· rw[Nat.mul_comm,Nat.mul_add_div (by omega),Nat.div_eq_of_lt hj,Nat.add_zero]);(· rw[Nat.mul_comm,Nat.mul_add_mod,Nat.mod_eq_of_lt hj])
theorem place_lt {n m i j:Nat} (hi:i < n) (hj:j < m):i * m+j < n * m:=by
 have:(i+1) * m≤n * m:=Nat.mul_le_mul_right _ hi;(rw[Nat.succ_mul] at this);omega
section
variable {a b L0 L1 S:List Int} {i j:Nat} {x y:Int}
end
end Lcs4_sec
section Gap1_sec
open Go.RowKit Go.Proofs.YthcnfflhejogfaaDoorW.PrintWords Go.Proofs.YthcnfflhejogfaaDoorW.PrintLast Go.Proofs.YthcnfflhejogfaaDoorW.PrintMore
abbrev RowG:=List Int × ByteArray
end Gap1_sec
section Gap2_sec
open Go.RowKit Go.Proofs.YthcnfflhejogfaaDoorW.PrintWords Go.Proofs.YthcnfflhejogfaaDoorW.PrintLast Go.Proofs.YthcnfflhejogfaaDoorW.PrintMore
def noMarks:List Int:=List.replicate 16 0
def oneRow (col:Nat) (s:ByteArray):RowG:=(noMarks.set col 1,s)
end Gap2_sec
section GapMath_sec
def Up (hi:Nat):Nat→List Int→Prop
  | lo,[]=>lo≤hi
  | lo,m :: ms=>(m = -1∧Up hi lo ms)∨(∃ k:Nat,m=(k:Int)∧lo≤k∧k < hi∧Up hi (k+1) ms)
theorem up_of_rises {a b:List Int} : ∀ {ms:List Int} {a b:List Int} {j n:Nat},Rises a b j ms n→Up (j+b.length) j ms
 | [],a,b,j,n,h=>by simp[Up]
 | m :: ms,a,b,j,n,h=>by
  rcases h with ⟨h1,h2⟩|⟨k,n',h1,_,h3,h4,h5⟩
  (· exact .inl ⟨h1,up_of_rises (a:=[]) (b:=[]) h2⟩)
  ·
   have hk:k < b.length:=by
    rcases Nat.lt_or_ge k b.length with h|h
    (· exact h)
    ·
     (rw[List.getElem?_eq_none h] at h3)
     cases a with
     | nil=>exact absurd rfl h4
     | cons x xs=>cases h3
   have:=up_of_rises (a:=[]) (b:=[]) h5;(rw[List.length_drop] at this);refine .inr ⟨j+k,h1,by omega,by omega,?_⟩
   rwa [show j+k+1+(b.length - (k+1))=j+b.length by omega] at this
theorem match_up (a b:List Int):Up b.length 0 (matchOf a b):=by
 have:=up_of_rises (a:=[]) (b:=[]) (matchFrom_rises a b 0)
 rwa [Nat.zero_add] at this
def comeGo (col:Nat) (list:List ByteArray):List Int→List RowG→Nat→List RowG
  | m :: ms,x :: rs,at_=>if 0≤m then ((list.take m.toNat).drop at_).map (oneRow col) ++ (x.1.set col 1,x.2) :: comeGo col list ms rs (m.toNat+1) else x :: comeGo col list ms rs at_
  | _,_,at_=>(list.drop at_).map (oneRow col)
def idsOf2 (rs:List RowG) (list:List ByteArray):List (List Int):=idsAll [rs.map (·.2),list]
def matchG (rs:List RowG) (list:List ByteArray):List Int:=matchOf ((idsOf2 rs list).getD 0 []) ((idsOf2 rs list).getD 1 [])
def comeF (col:Nat) (list:List ByteArray) (rs:List RowG):List RowG:=comeGo col list (matchG rs list) rs 0
theorem ids2_len (rs:List RowG) (list:List ByteArray):((idsOf2 rs list).getD 0 []).length=rs.length∧((idsOf2 rs list).getD 1 []).length=list.length:=by
 constructor;(· show (idsOne [] (rs.map (·.2))).2.length=_;rw[idsOne_length,List.length_map]);(· show (idsOne _ list).2.length=_;rw[idsOne_length])
theorem matchG_len (rs:List RowG) (list:List ByteArray):(matchG rs list).length=rs.length:=by
 rw[matchG,matchOf,matchFrom_length,(ids2_len rs list).1]
theorem matchG_up (rs:List RowG) (list:List ByteArray):Up list.length 0 (matchG rs list):=by
 have:=match_up ((idsOf2 rs list).getD 0 []) ((idsOf2 rs list).getD 1 [])
 rwa [(ids2_len rs list).2] at this
theorem comeGo_nil (col:Nat) (list:List ByteArray) (rs:List RowG) (a:Nat):comeGo col list [] rs a=(list.drop a).map (oneRow col):=by cases rs <;> rfl
theorem comeGo_no (col:Nat) (list:List ByteArray) (ms:List Int) (x:RowG) (rs:List RowG) (a:Nat):comeGo col list (-1 :: ms) (x :: rs) a=x :: comeGo col list ms rs a:=by
 rw[comeGo,if_neg (by decide)]
theorem comeGo_yes (col:Nat) (list:List ByteArray) (k:Nat) (ms:List Int) (x:RowG) (rs:List RowG) (a:Nat):comeGo col list ((k:Int) :: ms) (x :: rs) a=((list.take k).drop a).map (oneRow col) ++ (x.1.set col 1,x.2) :: comeGo col list ms rs (k+1):=by
 rw[comeGo,if_pos (by omega),Int.toNat_natCast]
theorem comeGo_len (col:Nat) (list:List ByteArray) : ∀ (ms:List Int) (rs:List RowG) (a:Nat),ms.length=rs.length→Up list.length a ms→(comeGo col list ms rs a).length≤rs.length+(list.length - a)
 | [],rs,a,h,_=>by
  (rw[comeGo_nil];simp)
 | m :: ms,[],a,h,_=>by simp at h
 | m :: ms,y :: rs,a,h,hu=>by
  (have h':ms.length=rs.length:=by simpa using h)
  rcases hu with ⟨rfl,hu⟩|⟨k,rfl,h1,h2,hu⟩
  (· have:=comeGo_len col list ms rs a h' hu;(rw[comeGo_no,List.length_cons,List.length_cons];omega));(· have:=comeGo_len col list ms rs (k+1) h' hu;rw[comeGo_yes];simp only[List.length_append,List.length_map,List.length_drop,List.length_take,List.length_cons];omega)
theorem comeF_len (col:Nat) (list:List ByteArray) (rs:List RowG):(comeF col list rs).length≤rs.length+list.length:=by
 have:=comeGo_len col list _ rs 0 (matchG_len rs list) (matchG_up rs list);(rw[comeF];omega)
end GapMath_sec
section Gap5_sec
open Go.RowKit Go.Proofs.YthcnfflhejogfaaDoorW.PrintWords Go.Proofs.YthcnfflhejogfaaDoorW.PrintLast Go.Proofs.YthcnfflhejogfaaDoorW.PrintMore
def markB (m:Int):UInt8:=if m=0 then 32 else 45
def rowOut (n:Nat) (x:RowG):S57:=⟨⟨((x.1.map markB).take n).toArray⟩,x.2⟩
end Gap5_sec
section PairMath_sec
theorem place_inj {t:List ByteArray} {s s':ByteArray} (h:s ∈ t) (e:place s t=place s' t):s=s':=by
 have h1:=(place_mem s).1 h;(have h2:place s' t < t.length:=by omega);have e1:=place_get s h1;have e2:=place_get s' h2;rw[← e1,← e2]
 congr 1
def num (t:List ByteArray) (s:ByteArray):Int:=(place s t:Int)
theorem num_inj {t:List ByteArray} {s s':ByteArray} (h:s ∈ t) (e:num t s=num t s'):s=s':=place_inj h (by unfold num at e;omega)
def matchS (a b:List ByteArray):List Int:=matchOf (a.map (num (a ++ b))) (b.map (num (a ++ b)))
def lcsS (a b:List ByteArray):Nat:=lcsL (a.map (num (a ++ b))) (b.map (num (a ++ b)))
theorem matchS_length (a b:List ByteArray):(matchS a b).length=a.length:=by rw[matchS,matchOf,matchFrom_length,List.length_map]
def Fits (list:List ByteArray):List Int→List ByteArray→Nat→Prop
  | [],[],lo=>lo≤list.length
  | m :: ms,s :: ss,lo=>(m = -1∧Fits list ms ss lo)∨(∃ k:Nat,m=(k:Int)∧lo≤k∧list[k]? = some s∧Fits list ms ss (k+1))
  | _,_,_=>False
theorem fits_of_rises {f:ByteArray→Int} {list:List ByteArray} : ∀ {ms:List Int} {a b:List ByteArray} {j n:Nat},list.drop j=b→j≤list.length→ms.length=a.length→(∀ x ∈ a,∀ y ∈ b,f x=f y→x=y)→Rises (a.map f) (b.map f) j ms n→Fits list ms a j
 | [],[],b,j,n,hb,hj,hl,hf,h=>hj
 | [],_ :: _,b,j,n,hb,hj,hl,hf,h=>by simp at hl
 | _ :: _,[],b,j,n,hb,hj,hl,hf,h=>by simp at hl
 | m :: ms,x :: a,b,j,n,hb,hj,hl,hf,h=>by
  (have hl':ms.length=a.length:=by simpa using hl)
  rcases h with ⟨h1,h2⟩|⟨k,n',h1,h2,h3,h4,h5⟩
  (· exact .inl ⟨h1,fits_of_rises hb hj hl' (fun u hu=>hf u (by simp[hu])) h2⟩)
  ·
   (simp only[List.map_cons,List.head?_cons,List.getElem?_map,Option.map_eq_some_iff] at h3);obtain⟨y,hy,e⟩:=h3;have hym:y ∈ b:=List.mem_of_getElem? hy;have:=hf x (by simp) y hym e.symm;subst this;(rw[← hb,List.getElem?_drop] at hy);have hlt:=(List.getElem?_eq_some_iff.1 hy).1;refine .inr ⟨j+k,h1,by omega,hy,fits_of_rises (b:=b.drop (k+1)) (n:=n') ?_ (by omega) hl' (fun u hu v hv=>hf u (by simp[hu]) v (List.mem_of_mem_drop hv)) ?_⟩;(· (rw[← hb,List.drop_drop];rfl));(· (rw[List.map_drop];exact h5))
theorem matchS_fits (a b:List ByteArray):Fits b (matchS a b) a 0 :=
  fits_of_rises (f:=num (a ++ b)) (n:=lcsS a b) (List.drop_zero ..) (Nat.zero_le _) (matchS_length a b) (fun x hx y _ e=>num_inj (by simp[hx]) e) (matchFrom_rises _ _ 0)
end PairMath_sec
section GapLaw_sec
def rowsFrom:Nat→List (List ByteArray)→List RowG→List RowG
  | _,[],rs=>rs
  | i,l :: ls,rs=>rowsFrom (i+1) ls (comeF i l rs)
theorem rowsFrom_snoc : ∀ (ls:List (List ByteArray)) (i:Nat) (l:List ByteArray) (rs:List RowG),rowsFrom i (ls ++ [l]) rs=comeF (i+ls.length) l (rowsFrom i ls rs)
 | [],i,l,rs=>rfl
 | x :: ls,i,l,rs=>by
  simp only[List.cons_append,rowsFrom,List.length_cons];rw[rowsFrom_snoc ls (i+1) l _,show i+1+ls.length=i+(ls.length+1) by omega]
def rowsOf (ls:List (List ByteArray)):List RowG:=rowsFrom 0 ls []
theorem rowsOf_snoc (ls:List (List ByteArray)) (l:List ByteArray):rowsOf (ls ++ [l])=comeF ls.length l (rowsOf ls):=by
 (rw[rowsOf,rowsFrom_snoc,Nat.zero_add];rfl)
theorem snoc_induct {α:Type} {P:List α→Prop} (h0:P []) (h1 : ∀ l x,P l→P (l ++ [x])) : ∀ l,P l:=by
 intro l;rw[← l.reverse_reverse]
 induction l.reverse with
 | nil=>exact h0
 | cons x l ih=>rw[List.reverse_cons];exact h1 _ _ ih
def sumLen (ls:List (List ByteArray)):Nat:=(ls.map List.length).sum
theorem rowsOf_le : ∀ ls:List (List ByteArray),(rowsOf ls).length≤sumLen ls:=by
 (refine snoc_induct (Nat.zero_le _) fun ls l ih=>?_);rw[rowsOf_snoc];have:=comeF_len ls.length l (rowsOf ls);(simp only[sumLen,List.map_append,List.sum_append,List.map_cons,List.map_nil,List.sum_cons,List.sum_nil] at ih ⊢);omega
end GapLaw_sec
section Ref02_sec
open Go.RowKit Go.Proofs.YthcnfflhejogfaaDoorW.PrintWords Go.Proofs.YthcnfflhejogfaaDoorW.PrintLast Go.Proofs.YthcnfflhejogfaaDoorW.PrintMore
def fewB (l:List ByteArray) (n:Nat):Bool:=decide (l.length≤n ∧ ∀ s ∈ l,s.size≤100)
theorem ref_few01_l0 (l:List ByteArray) (n:Nat) (hn:n≤1000000) : ∀ (r i k:Nat),i+r=n+1→2 * r+2≤k→sennitref01_Few.l0 k l (n:Int) (i:Int)=some (decide (l.length≤n ∧ ∀ s ∈ l.drop i,s.size≤100))
 | 0,i,k+2,hi,hk=>by
  (have e:((l.length:Int)≤(n:Int))=(l.length≤n):=by simp);rw[sennitref01_Few.l0]
  by_cases h:(i:Int) < l.length
  (· rw[if_pos h,decide_eq_false (show ¬ ((i:Int)≤(n:Int)) by omega),sennitref01_Few.j1,if_neg (by decide),decide_eq_false (by omega),decide_eq_false (by omega)]);(· rw[if_neg h,sennitref01_Few.j1,if_neg (by decide),List.drop_of_length_le (by omega)];simp)
 | r+1,i,k+2,hi,hk=>by
  rw[sennitref01_Few.l0]
  by_cases h:(i:Int) < l.length
  ·
   have hd:l.drop i=l[i] :: l.drop (i+1):=List.drop_eq_getElem_cons (by omega);rw[if_pos h,decide_eq_true (show ((i:Int)≤(n:Int)) by omega),sennitref01_Few.j1,if_pos rfl,if_pos (by omega),if_pos h,rdOfN (by omega),hd]
   by_cases h2:100 < l[i].size
   (· rw[if_pos (by omega),decide_eq_false];rintro⟨_,h3⟩;have:=h3 l[i] List.mem_cons_self;omega);(· rw[if_neg (by omega),gw1 (by omega)];have:=ref_few01_l0 l n hn r (i+1) k (by omega) (by omega);rw[this];simp only[List.forall_mem_cons,show l[i].size≤100 from by omega,true_and])
  (· rw[if_neg h,sennitref01_Few.j1,if_neg (by decide),List.drop_of_length_le (by omega)];simp)
theorem ref_few01 (l:List ByteArray) (n:Nat) (hn:n≤1000000):Gives (fun k=>sennitref01_Few.f k l (n:Int)) (fewB l n) :=
  ⟨2 * (n+1)+2,fun k hk=>by
    have:=ref_few01_l0 l n hn (n+1) 0 k (by omega) hk
    simpa [sennitref01_Few.f,fewB] using this⟩
end Ref02_sec
section Ref03_sec
open Go.RowKit Go.Proofs.YthcnfflhejogfaaDoorW.PrintWords Go.Proofs.YthcnfflhejogfaaDoorW.PrintLast Go.Proofs.YthcnfflhejogfaaDoorW.PrintMore
theorem rd_of {L:List Int} {i:Nat} {x:Int} (h:L[i]? = some x):rd L (i:Int)=x:=by
 simp[rd,h]
def Tab (a b:List Int) (i c:Nat) (T:List Int):Prop :=
  T.length=(a.length+1) * (b.length+1) ∧ ∀ i' j',i'≤a.length→j'≤b.length→T[i' * (b.length+1)+j']? = some (if i < i'∨i=i'∧c≤j' then ((lcsL (a.drop i') (b.drop j'):Nat):Int) else 0)
section
variable {a b T:List Int}
theorem tab_place {n m i j:Nat} (hi:i≤n) (hj:j≤m):i * (m+1)+j < (n+1) * (m+1):=place_lt (by omega) (by omega)
theorem tab_ne {m i j i' j':Nat} (hj:j≤m) (hj':j'≤m) (h:i * (m+1)+j=i' * (m+1)+j'):i=i'∧j=j':=by
 have h1:=place_div (m:=m+1) (i:=i) (j:=j) (by omega);have h2:=place_div (m:=m+1) (i:=i') (j:=j') (by omega);(rw[h] at h1);exact⟨h1.1.symm.trans h2.1,h1.2.symm.trans h2.2⟩
theorem Tab.first(h:Tab a b a.length b.length T):Tab a b a.length 0 T:=by
 refine⟨h.1,fun i' j' hi hj=>?_⟩;rw[h.2 i' j' hi hj]
 congr 1
 by_cases e:i'=a.length
 (· subst e;rw[if_pos (show a.length < a.length∨a.length=a.length∧0≤j' by omega),show a.drop a.length=[] from List.drop_of_length_le (by omega),lcsL_nil_left];(split <;> rfl));(· rw[if_neg (show ¬ (a.length < i'∨a.length=i'∧b.length≤j') by omega),if_neg (show ¬ (a.length < i'∨a.length=i'∧0≤j') by omega)])
theorem Tab.put {i c:Nat} (h:Tab a b i (c+1) T) (hi:i≤a.length) (hc:c≤b.length):Tab a b i c (T.set (i * (b.length+1)+c) ((lcsL (a.drop i) (b.drop c):Nat):Int)):=by
 refine⟨by simpa using h.1,fun i' j' hi' hj'=>?_⟩
 by_cases e:i'=i∧j'=c
 (· obtain⟨rfl,rfl⟩:=e;rw[List.getElem?_set_self (by rw[h.1];exact tab_place hi hc),if_pos (by omega)])
 ·
  rw[List.getElem?_set_ne (fun h2=>e (by have:=tab_ne hc hj' h2;omega)),h.2 i' j' hi' hj']
  congr 1
  by_cases e2:i < i'∨i=i'∧c+1≤j'
  (· rw[if_pos e2,if_pos (by omega)]);(· rw[if_neg e2,if_neg (by omega)])
theorem Tab.at_ {i c i' j':Nat} (h:Tab a b i c T) (hi:i'≤a.length) (hj:j'≤b.length) (hd:i < i'∨i=i'∧c≤j'):rd T ((i':Int) * ((b.length:Int)+1)+(j':Int))=((lcsL (a.drop i') (b.drop j'):Nat):Int):=by
 have:=h.2 i' j' hi hj;(rw[if_pos hd] at this);have e:=rd_of this;rw[← e]
 congr 1
end
section
variable {a b:List Int}
end
end Ref03_sec
section Ref19_sec
open Go.RowKit Go.Proofs.YthcnfflhejogfaaDoorW.PrintWords Go.Proofs.YthcnfflhejogfaaDoorW.PrintLast Go.Proofs.YthcnfflhejogfaaDoorW.PrintMore
abbrev ApiRow:=S57
def bs (l:List UInt8):ByteArray:=⟨l.toArray⟩
theorem bs_append (a b:List UInt8):bs a ++ bs b=bs (a ++ b):=by
 apply ByteArray.ext;simp[bs,ByteArray.data_append]
section
variable {col:Nat} {list:List ByteArray} {R:List ApiRow} {ms:List Int}
end
end Ref19_sec
section GapTells_sec
open Go.RowKit Go.Proofs.YthcnfflhejogfaaDoorW.PrintWords Go.Proofs.YthcnfflhejogfaaDoorW.PrintLast Go.Proofs.YthcnfflhejogfaaDoorW.PrintMore
theorem sumLen_take (n:Nat) : ∀ (ls:List (List ByteArray)) (i:Nat),(∀ l ∈ ls,l.length≤n)→sumLen (ls.take i)≤i * n
 | [],i,h=>by simp[sumLen]
 | l :: ls,0,h=>by simp[sumLen]
 | l :: ls,i+1,h=>by
  have h1:=sumLen_take n ls i (fun x hx=>h x (List.mem_cons_of_mem _ hx));have h2:=h l List.mem_cons_self;rw[Nat.succ_mul];(simp only[sumLen,List.take_succ_cons,List.map_cons,List.sum_cons] at h1 ⊢);omega
end GapTells_sec
section Contains_sec
open Go.RowKit Go.Proofs.YthcnfflhejogfaaDoorW.PrintWords Go.Proofs.YthcnfflhejogfaaDoorW.PrintLast Go.Proofs.YthcnfflhejogfaaDoorW.PrintMore
def longL (l:List ByteArray):Bool:=decide (2000 < l.length)
def wrongF (may:List ByteArray→Bool) (L:List (List ByteArray)):Int :=
  if L.length < 2∨17 < L.length then 1 else if L.any (fun l => !may l)=true then 2 else if L.any longL=true then 4 else 0
end Contains_sec
section Lose_sec
open Go.RowKit Go.Proofs.YthcnfflhejogfaaDoorW.PrintWords Go.Proofs.YthcnfflhejogfaaDoorW.PrintLast Go.Proofs.YthcnfflhejogfaaDoorW.PrintMore
open Go.Maps
def loseAt (N col:Nat) (parent:List ByteArray) (lost:Nat→Option (List (List ByteArray))) (to_ at_ line:Nat):Nat→Option (List (List ByteArray)) :=
  if at_ < to_ then fun q=>if q=line then some (((lost line).getD (List.replicate N [])).set col ((parent.take to_).drop at_)) else lost q else lost
end Lose_sec
section Pair_sec
open Go.RowKit Go.Proofs.YthcnfflhejogfaaDoorW.PrintWords Go.Proofs.YthcnfflhejogfaaDoorW.PrintLast Go.Proofs.YthcnfflhejogfaaDoorW.PrintMore
open Go.Maps
def pairGo (N col:Nat) (parent:List ByteArray):List Int→Nat→Nat→Nat→(Nat→Option (List (List ByteArray)))→Nat→Option (List (List ByteArray))
  | [],i,at_,last,lost=>loseAt N col parent lost parent.length at_ last
  | m :: ms,i,at_,last,lost=>if 0≤m then pairGo N col parent ms (i+1) (m.toNat+1) (i+1) (loseAt N col parent lost m.toNat at_ last) else pairGo N col parent ms (i+1) at_ last lost
def markS (m:Int):ByteArray:=if 0≤m then ⟨#[32]⟩ else ⟨#[43]⟩
def marksF (marks:List ByteArray) (ms:List Int):List ByteArray:=(marks.getD 0 ByteArray.empty ++ ⟨#[32]⟩) :: List.zipWith (fun s m=>s ++ markS m) marks.tail ms
end Pair_sec
section Put_sec
open Go.RowKit Go.Proofs.YthcnfflhejogfaaDoorW.PrintWords Go.Proofs.YthcnfflhejogfaaDoorW.PrintLast Go.Proofs.YthcnfflhejogfaaDoorW.PrintMore
open Go.Maps
def lostRows (x:Option (List (List ByteArray))):List S57:=match x with|none=>[]|some ls=>(rowsOf ls).map (rowOut ls.length)
end Put_sec
section Table_sec
open Go.RowKit Go.Proofs.YthcnfflhejogfaaDoorW.PrintWords Go.Proofs.YthcnfflhejogfaaDoorW.PrintLast Go.Proofs.YthcnfflhejogfaaDoorW.PrintMore
open Go.Maps
def marksAll (result:List ByteArray) (parents:List (List ByteArray)):List ByteArray :=
  parents.foldl (fun M p=>marksF M (matchS result p)) (⟨#[32]⟩ :: List.replicate result.length ByteArray.empty)
def lostFrom (N:Nat) (result:List ByteArray):List (List ByteArray)→Nat→(Nat→Option (List (List ByteArray)))→Nat→Option (List (List ByteArray))
  | [],_,lost=>lost
  | p :: ps,col,lost=>lostFrom N result ps (col+1) (pairGo N col p (matchS result p) 0 0 0 lost)
def lostAll (result:List ByteArray) (parents:List (List ByteArray)):Nat→Option (List (List ByteArray)):=lostFrom parents.length result parents 0 (fun _=>none)
def tableRows (result:List ByteArray) (parents:List (List ByteArray)):Nat→List S57
  | 0=>[]
  | k+1=>tableRows result parents k ++ lostRows (lostAll result parents k) ++ [⟨(marksAll result parents).getD (k+1) ByteArray.empty,result.getD k ByteArray.empty⟩]
def tableAll (result:List ByteArray) (parents:List (List ByteArray)):List S57:=tableRows result parents result.length ++ lostRows (lostAll result parents result.length)
def tableOk (result:List ByteArray) (parents:List (List ByteArray)):Bool :=
  decide (result.length≤1000000∧parents.length≤1000 ∧ ∀ l ∈ result :: parents,l.length≤1000000 ∧ ∀ s ∈ l,s.size≤1000000000) &&
    (decide (wrongF mayL (result :: parents)≠0) || decide (result.length+sumLen parents≤2000))
theorem marksF_length {M:List ByteArray} {ms:List Int} (h:M.length=ms.length+1):(marksF M ms).length=M.length:=by
 (simp[marksF];omega)
theorem marksF_get {M:List ByteArray} {ms:List Int} (n:Nat) (h:M.length=ms.length+1) (h0:(M.getD 0 ByteArray.empty).size=n+1) (hr : ∀ i,1≤i→i < M.length→(M.getD i ByteArray.empty).size=n) :
    ((marksF M ms).getD 0 ByteArray.empty).size=n+2 ∧ ∀ i,1≤i→i < M.length→((marksF M ms).getD i ByteArray.empty).size=n+1:=by
 refine⟨?_,fun i h1 h2=>?_⟩;(· show (M.getD 0 ByteArray.empty ++ ⟨#[32]⟩).size=_;(rw[ByteArray.size_append,h0];rfl))
 ·
  obtain⟨j,rfl⟩ : ∃ j,i=j+1:=⟨i - 1,by omega⟩;(have hj:j < ms.length:=by omega)
  have e:(marksF M ms).getD (j+1) ByteArray.empty=M.getD (j+1) ByteArray.empty ++ markS ms[j]:=by
   have hlen:=marksF_length h;rw[show (marksF M ms).getD (j+1) ByteArray.empty=(marksF M ms)[j+1]'(by omega) by simp[show j+1 < (marksF M ms).length by omega]];simp only[marksF,List.getElem_cons_succ,List.getElem_zipWith,List.getElem_tail];rw[show M.getD (j+1) ByteArray.empty=M[j+1] by simp[h2]]
  rw[e,ByteArray.size_append,hr (j+1) (by omega) h2];(unfold markS;split <;> rfl)
theorem lostFrom_snoc (N:Nat) (result:List ByteArray) : ∀ (ps:List (List ByteArray)) (p:List ByteArray) (col:Nat) (lost:Nat→Option (List (List ByteArray))),lostFrom N result (ps ++ [p]) col lost=pairGo N (col+ps.length) p (matchS result p) 0 0 0 (lostFrom N result ps col lost)
 | [],p,col,lost=>rfl
 | x :: ps,p,col,lost=>by
  rw[List.cons_append,lostFrom,lostFrom,lostFrom_snoc N result ps p (col+1) _,List.length_cons,show col+1+ps.length=col+(ps.length+1) by omega]
def marksK (result:List ByteArray) (parents:List (List ByteArray)) (k:Nat):List ByteArray:=marksAll result (parents.take k)
theorem marksK_succ (result:List ByteArray) (parents:List (List ByteArray)) {k:Nat} (h:k < parents.length):marksK result parents (k+1)=marksF (marksK result parents k) (matchS result (parents.getD k [])):=by
 rw[marksK,marksK,marksAll,marksAll,← List.take_append_getElem h,List.foldl_append,show parents.getD k []=parents[k] by simp[h]];rfl
theorem marksK_ok (result:List ByteArray) (parents:List (List ByteArray)) : ∀ k,k≤parents.length→(marksK result parents k).length=result.length+1∧((marksK result parents k).getD 0 ByteArray.empty).size=k+1 ∧ ∀ i,1≤i→i < result.length+1→((marksK result parents k).getD i ByteArray.empty).size=k
 | 0,_=>by
  refine⟨by simp[marksK,marksAll],rfl,fun i h1 h2=>?_⟩;obtain⟨j,rfl⟩ : ∃ j,i=j+1:=⟨i - 1,by omega⟩;show ((⟨#[32]⟩ :: List.replicate result.length ByteArray.empty).getD (j+1) ByteArray.empty).size=0;rw[List.getD_cons_succ];simp[List.getD_eq_getElem?_getD,List.getElem?_replicate,show j < result.length by omega]
 | k+1,hk=>by
  obtain⟨h1,h2,h3⟩:=marksK_ok result parents k (by omega);(have hl:(marksK result parents k).length=(matchS result (parents.getD k [])).length+1:=by rw[h1,matchS_length]);rw[marksK_succ _ _ (by omega)];obtain⟨g1,g2⟩:=marksF_get k hl h2 (fun i a b=>h3 i a (by omega));exact⟨by rw[marksF_length hl,h1],g1,fun i a b=>g2 i a (by omega)⟩
def lostK (result:List ByteArray) (parents:List (List ByteArray)) (k:Nat):Nat→Option (List (List ByteArray)):=lostFrom parents.length result (parents.take k) 0 (fun _=>none)
theorem lostK_succ (result:List ByteArray) (parents:List (List ByteArray)) {k:Nat} (h:k < parents.length):lostK result parents (k+1)=pairGo parents.length k (parents.getD k []) (matchS result (parents.getD k [])) 0 0 0 (lostK result parents k):=by
 rw[lostK,lostK,← List.take_append_getElem h,lostFrom_snoc,List.length_take_of_le (by omega),Nat.zero_add,show parents.getD k []=parents[k] by simp[h]]
end Table_sec
section TabRows_sec
open Go.RowKit Go.Proofs.YthcnfflhejogfaaDoorW.PrintWords Go.Proofs.YthcnfflhejogfaaDoorW.PrintLast Go.Proofs.YthcnfflhejogfaaDoorW.PrintMore
section
variable {R:List ApiRow}
end
end TabRows_sec
section TabMath_sec
open Go.RowKit Go.Proofs.YthcnfflhejogfaaDoorW.PrintWords Go.Proofs.YthcnfflhejogfaaDoorW.PrintLast Go.Proofs.YthcnfflhejogfaaDoorW.PrintMore
def nextM:List Int→Nat→Nat
  | [],n=>n
  | m :: t,n=>if 0≤m then m.toNat else nextM t n
def fromM (ms:List Int):Nat→Option Nat
  | 0=>some 0
  | q+1=>if 0≤ms.getD q (-1) then some ((ms.getD q (-1)).toNat+1) else none
def segL (p:List ByteArray) (ms:List Int) (q:Nat):List ByteArray :=
  match fromM ms q with
  | none=>[]
  | some a=>(p.take (nextM (ms.drop q) p.length)).drop a
def updSeg (N col:Nat) (p:List ByteArray) (ms:List Int) (lost:Nat→Option (List (List ByteArray))) (q:Nat):Option (List (List ByteArray)) :=
  if segL p ms q=[] then lost q else some (((lost q).getD (List.replicate N [])).set col (segL p ms q))
theorem Fits.next {list:List ByteArray} : ∀ {ms:List Int} {ss:List ByteArray} {lo:Nat},Fits list ms ss lo→lo≤nextM ms list.length∧nextM ms list.length≤list.length
 | [],[],lo,h=>⟨h,Nat.le_refl _⟩
 | [],_ :: _,lo,h=>h.elim
 | m :: ms,s :: ss,lo,h=>by
  rcases h with ⟨rfl,h⟩|⟨k,rfl,h1,h2,h3⟩
  (· (rw[nextM,if_neg (by decide)];exact h.next));(· have:=(List.getElem?_eq_some_iff.1 h2).1;(rw[nextM,if_pos (by omega),Int.toNat_natCast];omega))
 | _ :: _,[],lo,h=>h.elim
theorem Fits.at_ {list:List ByteArray} : ∀ {ms:List Int} {ss:List ByteArray} {lo:Nat},Fits list ms ss lo → ∀ q,q < ms.length→(ms.getD q (-1) = -1) ∨ ∃ k:Nat,ms.getD q (-1)=(k:Int)∧list[k]? = ss[q]? ∧ k < list.length∧k+1≤nextM (ms.drop (q+1)) list.length
 | [],ss,lo,h,q,hq=>absurd hq (by simp)
 | m :: ms,s :: ss,lo,h,0,hq=>by
  rcases h with ⟨rfl,h⟩|⟨k,rfl,h1,h2,h3⟩
  (· exact .inl rfl);(· exact .inr ⟨k,rfl,by rw[h2];rfl,(List.getElem?_eq_some_iff.1 h2).1,h3.next.1⟩)
 | m :: ms,s :: ss,lo,h,q+1,hq=>by
  (have hq':q < ms.length:=by simpa using hq)
  rcases h with ⟨rfl,h⟩|⟨k,rfl,h1,h2,h3⟩
  (· exact h.at_ q hq');(· exact h3.at_ q hq')
 | _ :: _,[],lo,h,q,hq=>h.elim
theorem Fits.drop_next {list:List ByteArray} : ∀ {ms:List Int} {ss:List ByteArray} {lo:Nat},Fits list ms ss lo → ∀ q,nextM (ms.drop q) list.length≤list.length
 | ms,ss,lo,h,0=>h.next.2
 | [],ss,lo,h,q+1=>Nat.le_refl _
 | m :: ms,s :: ss,lo,h,q+1=>by
  rcases h with ⟨rfl,h⟩|⟨k,rfl,h1,h2,h3⟩
  (· exact h.drop_next q);(· exact h3.drop_next q)
 | _ :: _,[],lo,h,q+1=>h.elim
theorem nextM_skip {ms:List Int} {L:Nat} (last:Nat) : ∀ (n:Nat),last+n≤ms.length→(∀ j,last≤j→j < last+n→ms.getD j (-1) < 0)→nextM (ms.drop last) L=nextM (ms.drop (last+n)) L
 | 0,_,_=>rfl
 | n+1,hl,hn=>by
  rw[nextM_skip last n (by omega) (fun j h1 h2=>hn j h1 (by omega)),dropCons (i:=last+n) (by omega),nextM];have:=hn (last+n) (by omega) (by omega);(rw[show ms.getD (last+n) (-1)=ms[last+n] by simp[List.getD_eq_getElem?_getD,List.getElem?_eq_getElem (show last+n < ms.length by omega)]] at this);(rw[if_neg (by omega)];rfl)
theorem fromM_none {ms:List Int} {last i q:Nat} (h : ∀ j,last≤j→j < i→ms.getD j (-1) < 0) (h1:last < q) (h2:q≤i∨ms.length≤i):fromM ms q=none:=by
 obtain⟨q,rfl⟩ : ∃ q',q=q'+1:=⟨q - 1,by omega⟩;rw[fromM]
 have:ms.getD q (-1) < 0:=by
  by_cases hq:q < i
  (· exact h q (by omega) hq);(· (rw[List.getD_eq_getElem?_getD,List.getElem?_eq_none (by omega)];decide))
 rw[if_neg (by omega)]
theorem segL_none {p:List ByteArray} {ms:List Int} {q:Nat} (h:fromM ms q=none):segL p ms q=[]:=by rw[segL,h]
theorem loseAt_eq {N col:Nat} {p:List ByteArray} {ms:List Int} {lost:Nat→Option (List (List ByteArray))} {at_ last:Nat} (hF:nextM (ms.drop last) p.length≤p.length) (ha:fromM ms last=some at_) (q:Nat) :
    loseAt N col p lost (nextM (ms.drop last) p.length) at_ last q=if q=last then updSeg N col p ms lost q else lost q:=by
 (have hs:segL p ms last=(p.take (nextM (ms.drop last) p.length)).drop at_:=by rw[segL,ha])
 by_cases hq:q=last
 ·
  subst hq;rw[if_pos rfl,updSeg,hs,loseAt]
  by_cases h:at_ < nextM (ms.drop q) p.length
  (· (have hne : ¬ (p.take (nextM (ms.drop q) p.length)).drop at_=[]:=by rw[List.drop_eq_nil_iff,List.length_take];omega);rw[if_pos h,if_neg hne];exact if_pos rfl);(· rw[if_neg h,if_pos (List.drop_eq_nil_iff.2 (by simp;omega))])
 ·
  rw[if_neg hq,loseAt];split;(· simp[hq]);(· rfl)
theorem pairGo_eq {N col:Nat} {p ss:List ByteArray} {ms:List Int} (hF:Fits p ms ss 0) : ∀ (t:List Int) (i at_ last:Nat) (lost:Nat→Option (List (List ByteArray))),ms.drop i=t→last≤i→i≤ms.length→fromM ms last=some at_→(∀ j,last≤j→j < i→ms.getD j (-1) < 0) →
    ∀ q,pairGo N col p t i at_ last lost q=if q < last then lost q else updSeg N col p ms lost q
  | [],i,at_,last,lost,hd,hli,hi,ha,hn,q=>by
    have hlen:ms.length≤i:=List.drop_eq_nil_iff.1 hd
    have hnx:nextM (ms.drop last) p.length=p.length:=by
      rw[nextM_skip last (i - last) (by omega) (fun j a b=>hn j a (by omega)),show last+(i - last)=i by omega,hd];rfl
    have:=loseAt_eq (N:=N) (col:=col) (lost:=lost) (by rw[hnx];exact Nat.le_refl _) ha q
    rw[hnx] at this
    rw[pairGo,this]
    by_cases h1:q < last
    · rw[if_neg (by omega),if_pos h1]
    · rw[if_neg h1]
      by_cases h2:q=last
      · rw[if_pos h2]
      · rw[if_neg h2,updSeg,if_pos (segL_none (fromM_none hn (by omega) (.inr hlen)))]
  | m :: t,i,at_,last,lost,hd,hli,hi,ha,hn,q=>by
    have hil:i < ms.length:=by
      apply Classical.byContradiction
      intro h
      rw[List.drop_of_length_le (by omega)] at hd
      cases hd
    rw[dropCons hil] at hd
    have hm:ms[i]=m:=(List.cons.inj hd).1
    have ht:ms.drop (i+1)=t:=(List.cons.inj hd).2
    have hg:ms.getD i (-1)=m:=by rw[← hm];simp[List.getD_eq_getElem?_getD,List.getElem?_eq_getElem hil]
    rw[pairGo]
    by_cases h0:0≤m
    · rw[if_pos h0,pairGo_eq hF t (i+1) (m.toNat+1) (i+1) _ ht (Nat.le_refl _) hil (by rw[fromM,hg,if_pos h0]) (fun j a b=>by omega) q]
      have hnx:nextM (ms.drop last) p.length=m.toNat:=by
        rw[nextM_skip last (i - last) (by omega) (fun j a b=>hn j a (by omega)),show last+(i - last)=i by omega,dropCons hil,nextM,hm,if_pos h0]
      have:=loseAt_eq (N:=N) (col:=col) (lost:=lost) (hF.drop_next last) ha
      rw[hnx] at this
      by_cases h1:q < last
      · rw[if_pos (by omega),if_pos h1,this q,if_neg (by omega)]
      · rw[if_neg h1]
        by_cases h2:q=last
        · rw[if_pos (by omega),this q,if_pos h2]
        · by_cases h3:q < i+1
          · rw[if_pos h3,this q,if_neg h2,updSeg,if_pos (segL_none (fromM_none hn (by omega) (.inl (by omega))))]
          · rw[if_neg h3,updSeg,updSeg,this q,if_neg h2]
    · rw[if_neg h0,pairGo_eq hF t (i+1) at_ last lost ht (by omega) hil ha (fun j a b=>by
        by_cases hj:j=i
        · subst hj;rw[hg];omega
        · exact hn j a (by omega)) q]
def segsL (result:List ByteArray) (ps:List (List ByteArray)) (q:Nat):List (List ByteArray):=ps.map (fun p=>segL p (matchS result p) q)
theorem segsL_length (result:List ByteArray) (ps:List (List ByteArray)) (q:Nat):(segsL result ps q).length=ps.length:=List.length_map ..
theorem empties {ls:List (List ByteArray)} (h:ls.all (·.isEmpty)=true):ls=List.replicate ls.length []:=by
 induction ls with
 | nil=>rfl
 | cons l t ih =>
  (simp only[List.all_cons,Bool.and_eq_true,List.isEmpty_iff] at h);rw[List.length_cons,List.replicate_succ,h.1,← ih h.2]
theorem lostK_eq (result:List ByteArray) (parents:List (List ByteArray)) (q:Nat) : ∀ k,k≤parents.length→lostK result parents k q=if (segsL result (parents.take k) q).all (·.isEmpty)=true then none else some (segsL result (parents.take k) q ++ List.replicate (parents.length - k) [])
 | 0,_=>by
  (rw[List.take_zero];rfl)
 | k+1,hk=>by
  (have hkl:k < parents.length:=by omega);have ih:=lostK_eq result parents q k (by omega);have hpg:pairGo parents.length k (parents.getD k []) (matchS result (parents.getD k [])) 0 0 0 (lostK result parents k) q=_:=pairGo_eq (matchS_fits result _) _ 0 0 0 _ rfl (Nat.le_refl _) (Nat.zero_le _) rfl (fun j a b=>by omega) q;rw[lostK_succ _ _ hkl,hpg,if_neg (by omega),updSeg];(have hp:parents.getD k []=parents[k]:=by simp[hkl])
  have hs:segsL result (parents.take (k+1)) q=segsL result (parents.take k) q ++ [segL (parents.getD k []) (matchS result (parents.getD k [])) q]:=by
   (rw[← List.take_append_getElem hkl,segsL,List.map_append,hp];rfl)
  rw[hs];obtain⟨S,hS⟩ : ∃ S,segsL result (parents.take k) q=S:=⟨_,rfl⟩;obtain⟨s,hs1⟩ : ∃ s,segL (parents.getD k []) (matchS result (parents.getD k [])) q=s:=⟨_,rfl⟩;(have hSl:S.length=k:=by rw[← hS,segsL_length,List.length_take];omega);(rw[hS] at ih);rw[hS,hs1]
  have hrep:List.replicate (parents.length - k) ([]:List ByteArray)=[] :: List.replicate (parents.length - (k+1)) []:=by
   rw[show parents.length - k=(parents.length - (k+1))+1 by omega,List.replicate_succ]
  by_cases e:s=[]
  (· subst e;rw[if_pos rfl,ih,List.all_append];have:([[]]:List (List ByteArray)).all (·.isEmpty)=true:=rfl;rw[this,Bool.and_true,hrep];simp)
  ·
   have hne:(S ++ [s]).all (·.isEmpty)=false:=by
    rw[List.all_append]
    have:([s]:List (List ByteArray)).all (·.isEmpty)=false:=by
     cases s with
     | nil=>exact absurd rfl e
     | cons a b=>rfl
    rw[this,Bool.and_false]
   rw[if_neg e,hne,if_neg (by decide)]
   have hget:(lostK result parents k q).getD (List.replicate parents.length [])=S ++ List.replicate (parents.length - k) []:=by
    rw[ih]
    by_cases ha:S.all (·.isEmpty)=true
    ·
     rw[if_pos ha,Option.getD_none];have:=empties ha;(rw[hSl] at this);rw[this,List.replicate_append_replicate]
     congr 1;omega
    (· (rw[if_neg ha];rfl))
   (rw[hget,hrep,List.set_append,if_neg (by omega),hSl,Nat.sub_self,List.set_cons_zero,List.append_assoc];rfl)
theorem lostAll_eq (result:List ByteArray) (parents:List (List ByteArray)) (q:Nat):lostAll result parents q=if (segsL result parents q).all (·.isEmpty)=true then none else some (segsL result parents q):=by
 have:=lostK_eq result parents q parents.length (Nat.le_refl _);(rw[List.take_length,Nat.sub_self,List.replicate_zero,List.append_nil,lostK,List.take_length] at this);exact this
theorem rowsOf_empties {ls:List (List ByteArray)} (h:ls.all (·.isEmpty)=true):rowsOf ls=[]:=by
 have h1:=rowsOf_le ls
 have h2:sumLen ls=0:=by
  (rw[empties h];simp[sumLen])
 (rw[h2] at h1);exact List.length_eq_zero_iff.1 (by omega)
theorem lostRows_eq (result:List ByteArray) (parents:List (List ByteArray)) (q:Nat):lostRows (lostAll result parents q)=(rowsOf (segsL result parents q)).map (rowOut parents.length):=by
 rw[lostAll_eq]
 by_cases h:(segsL result parents q).all (·.isEmpty)=true
 (· (rw[if_pos h,lostRows,rowsOf_empties h];rfl));(· rw[if_neg h,lostRows,segsL_length])
def marksU (result:List ByteArray) (ps:List (List ByteArray)) (k:Nat):List UInt8:=ps.map (fun p=>if 0≤(matchS result p).getD k 0 then 32 else 43)
theorem markS_bs (m:Int):markS m=bs [if 0≤m then 32 else 43]:=by
 unfold markS;(split <;> rfl)
theorem marksK_eq (result:List ByteArray) (parents:List (List ByteArray)) (q:Nat) (hq:q < result.length) : ∀ k,k≤parents.length→(marksK result parents k).getD (q+1) ByteArray.empty=bs (marksU result (parents.take k) q)
 | 0,_=>by
  show ((⟨#[32]⟩ :: List.replicate result.length ByteArray.empty).getD (q+1) ByteArray.empty)=_;rw[List.getD_cons_succ];simp[List.getD_eq_getElem?_getD,List.getElem?_replicate,hq,marksU];rfl
 | k+1,hk=>by
  (have hkl:k < parents.length:=by omega);(have hp:parents.getD k []=parents[k]:=by simp[hkl]);have hM:=(marksK_ok result parents k (by omega)).1;have ih:=marksK_eq result parents q hq k (by omega);rw[marksK_succ _ _ hkl,marksF,List.getD_cons_succ];have hml:=matchS_length result (parents.getD k []);(have h1:q < (marksK result parents k).tail.length:=by simp[hM];exact hq);(have h2:q < (matchS result (parents.getD k [])).length:=by rw[hml];exact hq)
  have h3:(marksK result parents k).tail[q]=(marksK result parents k).getD (q+1) ByteArray.empty:=by
   (rw[List.getElem_tail];simp[List.getD_eq_getElem?_getD,List.getElem?_eq_getElem (show q+1 < (marksK result parents k).length by omega)])
  (have h4:(matchS result (parents.getD k [])).getD q 0=(matchS result (parents.getD k []))[q]:=by rw[List.getD_eq_getElem?_getD,List.getElem?_eq_getElem h2];rfl);rw[List.getD_eq_getElem?_getD,List.getElem?_zipWith,List.getElem?_eq_getElem h1,List.getElem?_eq_getElem h2];show (marksK result parents k).tail[q] ++ markS (matchS result (parents.getD k []))[q]=_;(rw[h3,ih,markS_bs,bs_append,← List.take_append_getElem hkl,marksU,marksU,List.map_append,← hp,← h4];rfl)
theorem marksAll_eq (result:List ByteArray) (parents:List (List ByteArray)) (q:Nat) (hq:q < result.length):(marksAll result parents).getD (q+1) ByteArray.empty=bs (marksU result parents q):=by
 have:=marksK_eq result parents q hq parents.length (Nat.le_refl _)
 rwa [marksK,List.take_length] at this
def segRows (result:List ByteArray) (parents:List (List ByteArray)) (q:Nat):List ApiRow:=(rowsOf (segsL result parents q)).map (rowOut parents.length)
theorem tableRows_succ (result:List ByteArray) (parents:List (List ByteArray)) (k:Nat) (hk:k < result.length):tableRows result parents (k+1)=tableRows result parents k ++ segRows result parents k ++ [⟨bs (marksU result parents k),result[k]⟩]:=by
 (rw[tableRows,lostRows_eq,marksAll_eq _ _ _ hk,show result.getD k ByteArray.empty=result[k] by simp[hk]];rfl)
theorem tableAll_eq (result:List ByteArray) (parents:List (List ByteArray)):tableAll result parents=tableRows result parents result.length ++ segRows result parents result.length:=by
 (rw[tableAll,lostRows_eq];rfl)
theorem segL_length_le (p:List ByteArray) (ms:List Int) (q:Nat):(segL p ms q).length≤p.length:=by
 unfold segL;split;(· simp);(· (simp;omega))
end TabMath_sec
section TabTells_sec
open Go.RowKit Go.Proofs.YthcnfflhejogfaaDoorW.PrintWords Go.Proofs.YthcnfflhejogfaaDoorW.PrintLast Go.Proofs.YthcnfflhejogfaaDoorW.PrintMore
def FewT (result:List ByteArray) (ls:List (List ByteArray)):Prop:=(result.length≤16 ∧ ∀ s ∈ result,s.size≤100)∧ls.length≤6 ∧ ∀ l ∈ ls,l.length≤16 ∧ ∀ s ∈ l,s.size≤100
section
variable {result:List ByteArray} {ls:List (List ByteArray)}
theorem FewT.sum (h:FewT result ls):sumLen ls≤96:=by
 have:=sumLen_take 16 ls ls.length (fun l hl=>(h.2.2 l hl).1);(rw[List.take_length] at this);have:=h.2.1;omega
theorem FewT.ok (h:FewT result ls):tableOk result ls=true:=by
 obtain⟨⟨h1,h2⟩,h3,h4⟩:=h;have h5:sumLen ls≤96:=FewT.sum ⟨⟨h1,h2⟩,h3,h4⟩;rw[tableOk,Bool.and_eq_true,Bool.or_eq_true];refine⟨decide_eq_true ⟨by omega,by omega,?_⟩, .inr (decide_eq_true (by omega))⟩;intro l hl
 rcases List.mem_cons.1 hl with rfl|hl
 (· exact⟨by omega,fun s hs=>by have:=h2 s hs;omega⟩);(· have:=(h4 l hl).1;exact⟨by omega,fun s hs=>by have:=(h4 l hl).2 s hs;omega⟩)
end
section
variable {result:List ByteArray} {ls:List (List ByteArray)}
theorem segRows_len (result:List ByteArray) (ls:List (List ByteArray)) (q:Nat):(segRows result ls q).length≤sumLen ls:=by
 rw[segRows,List.length_map];refine Nat.le_trans (rowsOf_le _) ?_;rw[segsL,sumLen,sumLen,List.map_map]
 induction ls with
 | nil=>simp
 | cons p t ih =>
  simp only[List.map_cons,List.sum_cons,Function.comp_apply];have:=segL_length_le p (matchS result p) q;have:=ih;(simp only[Function.comp_def] at this ⊢);omega
theorem tableRows_len (result:List ByteArray) (ls:List (List ByteArray)) : ∀ q,q≤result.length→(tableRows result ls q).length≤q * (sumLen ls+1)
 | 0,_=>by simp[tableRows]
 | q+1,h=>by
  have:=tableRows_len result ls q (by omega);have h2:=segRows_len result ls q;rw[tableRows_succ _ _ _ h,List.length_append,List.length_append,List.length_singleton,Nat.succ_mul];omega
theorem FewT.rows (h:FewT result ls) {q:Nat} (hq:q≤result.length):(tableRows result ls q).length≤2000:=by
 have h1:=tableRows_len result ls q hq;have h2:=h.sum;have h3:=h.1.1;have:q * (sumLen ls+1)≤16 * 97:=Nat.mul_le_mul (by omega) (by omega);omega
theorem FewT.all (h:FewT result ls):(tableAll result ls).length≤3000:=by
 rw[tableAll_eq,List.length_append];have:=h.rows (Nat.le_refl _);have:=segRows_len result ls result.length;have:=h.sum;omega
end
end TabTells_sec
section TabCols_sec
open Go.RowKit Go.Proofs.YthcnfflhejogfaaDoorW.PrintWords Go.Proofs.YthcnfflhejogfaaDoorW.PrintLast Go.Proofs.YthcnfflhejogfaaDoorW.PrintMore
section
variable {result:List ByteArray} {ls:List (List ByteArray)}
end
end TabCols_sec
end Go.Proofs.YthcnfflhejogfaaDoor.X.T20
namespace Go.Proofs.YthcnfflhejogfaaDoor.X
open Go.RowKit Go.Proofs.YthcnfflhejogfaaDoorW.PrintWords Go.Proofs.YthcnfflhejogfaaDoorW.PrintLast Go.Proofs.YthcnfflhejogfaaDoorW.PrintMore
abbrev Txt:=List RowH→List ByteArray
abbrev Spn:=Hunk48→Span45
def cutT (l:List ByteArray) (f t:Nat):List ByteArray:=(l.take t).drop f
theorem cutT_len {l:List ByteArray} {f t:Nat} (ht:t≤l.length):(cutT l f t).length=t - f:=by
 rw[cutT,List.length_drop,List.length_take,Nat.min_eq_left ht]
def goF (spO spN:Spn) (txO txN:Txt) (file:List ByteArray):List Hunk48→List ByteArray→Int→Int→List ByteArray × Int
  | [],out,a,_=>if mayL (out ++ file.drop a.toNat)=true then (out ++ file.drop a.toNat,0) else ([],7)
  | h :: t,out,a,b=>if (spO h).f1≤(file.length:Int)∧cutT file (spO h).f0.toNat (spO h).f1.toNat=txO h.f2∧(spO h).f0 - a=(spN h).f0 - b then goF spO spN txO txN file t (out ++ (cutT file a.toNat (spO h).f0.toNat ++ txN h.f2)) (spO h).f1 (spN h).f1 else ([],7)
def ChainOk (spO spN:Spn) (txO txN:Txt):List Hunk48→Nat→Nat→Prop
  | [],_,_=>True
  | h :: t,a,b => ∃ f g f' g':Nat,spO h=⟨(f:Int),(g:Int)⟩∧spN h=⟨(f':Int),(g':Int)⟩∧a≤f∧f≤g∧g≤2000∧b≤f'∧f'≤g'∧g'≤2000∧(txO h.f2).length=g - f∧(txN h.f2).length=g' - f'∧ChainOk spO spN txO txN t g g'
theorem ChainOk.swap {spO spN:Spn} {txO txN:Txt} : ∀ {l:List Hunk48} {a b:Nat},ChainOk spO spN txO txN l a b→ChainOk spN spO txN txO l b a
 | [],_,_,_=>trivial
 | h :: t,a,b,⟨f,g,f',g',h1,h2,h3,h4,h5,h6,h7,h8,h9,h10,h11⟩=>⟨f',g',f,g,h2,h1,h6,h7,h8,h3,h4,h5,h10,h9,ChainOk.swap h11⟩
section
variable {spO spN:Spn} {txO txN:Txt} {file res:List ByteArray}
theorem goF_nil (out:List ByteArray) (a b:Nat):goF spO spN txO txN file [] out a b=if mayL (out ++ file.drop a)=true then (out ++ file.drop a,0) else ([],7):=by
 rw[goF,Int.toNat_natCast]
theorem goF_cons {h:Hunk48} {f g f' g':Nat} (h1:spO h=⟨(f:Int),(g:Int)⟩) (h2:spN h=⟨(f':Int),(g':Int)⟩) (t:List Hunk48) (out:List ByteArray) (a b:Nat) :
    goF spO spN txO txN file (h :: t) out a b=if g≤file.length∧cutT file f g=txO h.f2∧(f:Int) - a=(f':Int) - b then goF spO spN txO txN file t (out ++ (cutT file a f ++ txN h.f2)) (g:Int) (g':Int) else ([],7):=by
 rw[goF,h1,h2];simp only[Int.toNat_natCast,Int.ofNat_le]
theorem goF_out : ∀ (l:List Hunk48) (out:List ByteArray) (a b:Int),goF spO spN txO txN file l out a b=(res,0) → ∃ r,res=out ++ r
 | [],out,a,b,h=>by
  (rw[goF] at h);(split at h);(· exact⟨_,(Prod.mk.inj h).1.symm⟩);(· exact absurd (Prod.mk.inj h).2 (by decide))
 | x :: t,out,a,b,h=>by
  (rw[goF] at h);(split at h);(· obtain⟨r,e⟩:=goF_out t _ _ _ h;exact⟨_,by rw[e,List.append_assoc]⟩);(· exact absurd (Prod.mk.inj h).2 (by decide))
theorem goF_may : ∀ (l:List Hunk48) (out:List ByteArray) (a b:Int),goF spO spN txO txN file l out a b=(res,0)→mayL res=true
 | [],out,a,b,h=>by
  (rw[goF] at h);(split at h);(· (rename_i hm;rw[← (Prod.mk.inj h).1];exact hm));(· exact absurd (Prod.mk.inj h).2 (by decide))
 | x :: t,out,a,b,h=>by
  (rw[goF] at h);(split at h);(· exact goF_may t _ _ _ h);(· exact absurd (Prod.mk.inj h).2 (by decide))
theorem take_cut {l:List ByteArray} {a f:Nat} (h:a≤f):l.take a ++ cutT l a f=l.take f:=by
 rw[cutT]
 conv=>lhs;lhs;rw[show l.take a=(l.take f).take a by rw[List.take_take,Nat.min_eq_left h]]
 exact List.take_append_drop a _
theorem cut_cut {l:List ByteArray} {a f t:Nat} (h:a≤f) (k:f≤t):cutT l a f ++ cutT l f t=cutT l a t:=by
 (have e:(l.take a ++ cutT l a f) ++ cutT l f t=l.take a ++ cutT l a t:=by rw[take_cut h,take_cut k,take_cut (Nat.le_trans h k)]);(rw[List.append_assoc] at e);exact List.append_cancel_left e
theorem cutT_pre {l m r:List ByteArray} {a b:Nat} (ha:l.length=a) (hb:m.length=b - a) (hab:a≤b):cutT (l ++ (m ++ r)) a b=m:=by
 rw[cutT,← List.append_assoc,List.take_left' (by rw[List.length_append];omega),List.drop_left' ha]
theorem goF_back : ∀ (l:List Hunk48) (out:List ByteArray) (a b:Nat),ChainOk spO spN txO txN l a b→out.length=b→a≤file.length→mayL file=true→goF spO spN txO txN file l out a b=(res,0)→goF spN spO txN txO res l (file.take a) b a=(file,0)
 | [],out,a,b,_,hb,ha,hm,h=>by
  (rw[goF_nil] at h);(split at h);(· have e:=(Prod.mk.inj h).1;rw[goF_nil,← e,List.drop_left' hb,List.take_append_drop,if_pos hm]);(· exact absurd (Prod.mk.inj h).2 (by decide))
 | x :: t,out,a,b,⟨f,g,f',g',h1,h2,h3,h4,h5,h6,h7,h8,h9,h10,h11⟩,hb,ha,hm,h=>by
  (rw[goF_cons h1 h2] at h);(split at h)
  ·
   rename_i hc;obtain⟨c1,c2,c3⟩:=hc;have hcl:(cutT file a f).length=f - a:=cutT_len (by omega)
   have hol:(out ++ (cutT file a f ++ txN x.f2)).length=g':=by
    (rw[List.length_append,List.length_append,hcl,hb,h10];omega)
   have ih:=goF_back t _ g g' h11 hol c1 hm h;obtain⟨r,e⟩:=goF_out t _ _ _ h;(have hrl:g'≤res.length:=by rw[e,List.length_append,hol];omega)
   have e1:cutT res b f'=cutT file a f:=by
    rw[e,List.append_assoc,List.append_assoc];exact cutT_pre hb (by rw[hcl];omega) h6
   have e2:cutT res f' g'=txN x.f2:=by
    rw[e,← List.append_assoc,List.append_assoc];exact cutT_pre (by rw[List.length_append,hcl,hb];omega) h10 h7
   rw[goF_cons h2 h1,if_pos ⟨hrl,e2,by omega⟩];rw[e1,← c2,cut_cut h3 h4,take_cut (by omega)];exact ih
  (· exact absurd (Prod.mk.inj h).2 (by decide))
end
def txP (P:ByteArray→Bool) (R:List RowH):List ByteArray:=(R.filter (fun x=>P x.f0)).map (·.f1)
section
variable {P Q:ByteArray→Bool} {R R':List RowH}
theorem marks_at (hm:R'.map (·.f0)=R.map (·.f0)) {i:Nat} (h:i < R.length) (h':i < R'.length):R'[i].f0=R[i].f0:=by
 (have e1:(R'.map (·.f0))[i]'(by simpa using h')=R'[i].f0:=by simp);(have e2:(R.map (·.f0))[i]'(by simpa using h)=R[i].f0:=by simp);rw[← e1,← e2];simp only[hm]
theorem marks_len (hm:R'.map (·.f0)=R.map (·.f0)):R'.length=R.length:=by
 have:=congrArg List.length hm;simpa using this
def BothOk (P Q:ByteArray→Bool) (R:List RowH) (sh:List Bool):Prop := ∀ j (h:j < R.length),¬ HkP.MarkAt id sh j→P R[j].f0=true∧Q R[j].f0=true
theorem BothOk.marks {sh:List Bool} (hB:BothOk P Q R sh) (hm:R'.map (·.f0)=R.map (·.f0)):BothOk P Q R' sh:=fun j h hj=>by
  have hl:=marks_len hm
  rw[marks_at hm (by omega) h]
  exact hB j (by omega) hj
variable {spO spN:Spn}
end
def notL (s:ByteArray):Bool := !lostB s
def spP (i:Int) (h:Hunk48):Span45:=rd_T45 h.f0 i
def spR (h:Hunk48):Span45:=h.f1
def marksN (R:List RowH):Nat:=(rd_T57 R 0).f0.size
def spanB (s:Span45) (least:Int) (many:Nat):Bool:=decide (least≤s.f0) && (decide (s.f0≤s.f1) && (decide (s.f1≤2000) && decide (s.f1 - s.f0=(many:Int))))
theorem spanB_iff {s:Span45} {least:Int} {many:Nat}:spanB s least many=true↔least≤s.f0∧s.f0≤s.f1∧s.f1≤2000∧s.f1 - s.f0=(many:Int):=by
 rw[spanB,Bool.and_eq_true,Bool.and_eq_true,Bool.and_eq_true,decide_eq_true_eq,decide_eq_true_eq,decide_eq_true_eq,decide_eq_true_eq]
def lastP (last:Option Hunk48) (k:Nat):Int:=match last with|none=>0|some h=>(spP (k:Int) h).f1
def lastR (last:Option Hunk48):Int:=match last with|none=>0|some h=>h.f1.f1
def hunkB (n0:Nat) (last:Option Hunk48) (h:Hunk48):Bool :=
  (!decide (h.f2=[]) && (mayB h.f2 && (decide (h.f0.length=marksN h.f2) && decide (h.f0.length=n0)))) && ((List.range h.f0.length).all (fun k=>spanB (spP (k:Int) h) (lastP last k) (txP (ofB (k:Int)) h.f2).length) && spanB h.f1 (lastR last) (txP notL h.f2).length)
theorem hunkB_iff {n0:Nat} {last:Option Hunk48} {h:Hunk48}:hunkB n0 last h=true↔h.f2≠[]∧mayB h.f2=true∧h.f0.length=marksN h.f2∧h.f0.length=n0∧(∀ k,k < h.f0.length→spanB (spP (k:Int) h) (lastP last k) (txP (ofB (k:Int)) h.f2).length=true)∧spanB h.f1 (lastR last) (txP notL h.f2).length=true:=by
 rw[hunkB,Bool.and_eq_true,Bool.and_eq_true,Bool.and_eq_true,Bool.and_eq_true,Bool.and_eq_true,Bool.not_eq_true',decide_eq_false_iff_not,decide_eq_true_eq,decide_eq_true_eq,List.all_eq_true];constructor;(· rintro⟨⟨h1,h2,h3,h4⟩,h5,h6⟩;exact⟨h1,h2,h3,h4,fun k hk=>h5 k (List.mem_range.2 hk),h6⟩);(· rintro⟨h1,h2,h3,h4,h5,h6⟩;exact⟨⟨h1,h2,h3,h4⟩,fun k hk=>h5 k (List.mem_range.1 hk),h6⟩)
def mayGo (n0:Nat):Option Hunk48→List Hunk48→Bool
  | _,[]=>true
  | last,h :: t=>hunkB n0 last h && mayGo n0 (some h) t
def firstN (l:List Hunk48):Nat:=(rd_T48 l 0).f0.length
def mayHB (l:List Hunk48):Bool:=mayGo (firstN l) none l
theorem chain_of (n0 i:Nat) (hi:i < n0) : ∀ (t:List Hunk48) (last:Option Hunk48) (a b:Nat),lastP last i=(a:Int)→lastR last=(b:Int)→mayGo n0 last t=true→ChainOk (spP (i:Int)) spR (txP (ofB (i:Int))) (txP notL) t a b
 | [],_,_,_,_,_,_=>trivial
 | h :: t,last,a,b,ha,hb,hm=>by
  (rw[mayGo,Bool.and_eq_true,hunkB_iff] at hm);obtain⟨⟨h1,h2,h3,h4,h5,h6⟩,h7⟩:=hm;obtain⟨p1,p2,p3,p4⟩:=spanB_iff.1 (h5 i (by omega));obtain⟨q1,q2,q3,q4⟩:=spanB_iff.1 h6;(rw[ha] at p1);(rw[hb] at q1);refine⟨(spP (i:Int) h).f0.toNat,(spP (i:Int) h).f1.toNat,h.f1.f0.toNat,h.f1.f1.toNat,?_,?_,by omega,by omega,by omega,by omega,by omega,by omega,by omega,by omega,?_⟩;(· rw[Int.toNat_of_nonneg (by omega),Int.toNat_of_nonneg (by omega)]);(· (rw[Int.toNat_of_nonneg (by omega),Int.toNat_of_nonneg (by omega)];rfl));(· exact chain_of n0 i hi t (some h) _ _ (by show (spP (i:Int) h).f1=_;omega) (by show h.f1.f1=_;omega) h7)
def checkF (l:List Hunk48) (column:Int) (file:List ByteArray):Int :=
  if column < 0∨(0 < l.length∧column ≥ (firstN l:Int))∨mayL file=false then 1 else if mayHB l=false then 2 else 0
def runF (back:Bool) (l:List Hunk48) (column:Int) (file:List ByteArray):List ByteArray × Int :=
  if checkF l column file=0 then (if back=true then goF spR (spP column) (txP notL) (txP (ofB column)) file l [] 0 0 else goF (spP column) spR (txP (ofB column)) (txP notL) file l [] 0 0) else ([],checkF l column file)
theorem checkF_0 {l:List Hunk48} {column:Int} {file:List ByteArray}:checkF l column file=0↔0≤column∧(0 < l.length→column < (firstN l:Int))∧mayL file=true∧mayHB l=true:=by
 rw[checkF];split
 ·
  rename_i h;constructor;(· (intro e;exact absurd e (by decide)))
  ·
   rintro⟨h1,h2,h3,h4⟩
   rcases h with h|h|h
   (· omega);(· (have:=h2 h.1;omega));(· (rw[h3] at h;cases h))
 ·
  rename_i h;(have h1 : ¬ column < 0:=fun e=>h (.inl e));(have h2 : ¬ (0 < l.length∧column ≥ (firstN l:Int)):=fun e=>h (.inr (.inl e)))
  have h3:mayL file=true:=by
   cases e:mayL file with
   | true=>rfl
   | false=>exact(h (.inr (.inr e))).elim
  split
  ·
   rename_i h4;constructor;(· (intro e;exact absurd e (by decide)));(· (rintro⟨_,_,_,h5⟩;rw[h4] at h5;cases h5))
  ·
   rename_i h4;refine⟨fun _=>⟨by omega,fun e=>by omega,h3,?_⟩,fun _=>rfl⟩
   cases e:mayHB l with
   | true=>rfl
   | false=>exact(h4 e).elim
theorem chain_check {l:List Hunk48} {column:Int} {file:List ByteArray} (h:checkF l column file=0):ChainOk (spP column) spR (txP (ofB column)) (txP notL) l 0 0:=by
 obtain⟨h1,h2,h3,h4⟩:=checkF_0.1 h
 cases l with
 | nil=>trivial
 | cons x t =>
  have h2:=h2 (by simp);obtain⟨i,rfl⟩ : ∃ i:Nat,column=(i:Int):=⟨column.toNat,by omega⟩;exact chain_of (firstN (x :: t)) i (by omega) (x :: t) none 0 0 rfl rfl h4
theorem runF_mayL {back:Bool} {l:List Hunk48} {column:Int} {file res:List ByteArray} (h:runF back l column file=(res,0)):checkF l column file=0∧mayL res=true:=by
 (rw[runF] at h);(split at h)
 ·
  rename_i hc;refine⟨hc,?_⟩;(split at h);(· exact goF_may _ _ _ _ h);(· exact goF_may _ _ _ _ h)
 (· rename_i hc;exact(hc (Prod.mk.inj h).2).elim)
theorem runF_back {back:Bool} {l:List Hunk48} {column:Int} {file res:List ByteArray} (h:runF back l column file=(res,0)):runF (!back) l column res=(file,0):=by
 obtain⟨hc,hm⟩:=runF_mayL h;have hch:=chain_check hc;obtain⟨h1,h2,h3,h4⟩:=checkF_0.1 hc;have hc2:checkF l column res=0:=checkF_0.2 ⟨h1,h2,hm,h4⟩;(rw[runF,if_pos hc] at h);rw[runF,if_pos hc2]
 cases back with
 | true =>
  (rw[if_pos rfl] at h);rw[if_neg (by decide)];have:=goF_back l [] 0 0 hch.swap rfl (Nat.zero_le _) h3 h
  rwa [List.take_zero] at this
 | false =>
  (rw[if_neg (by decide)] at h);rw[if_pos (show (!false)=true from rfl)];have:=goF_back l [] 0 0 hch rfl (Nat.zero_le _) h3 h
  rwa [List.take_zero] at this
def LowH (l:List Hunk48):Prop:=l.length≤100000 ∧ ∀ h ∈ l,h.f0.length≤1000000∧lowB h.f2=true
theorem rdHunk {l:List Hunk48} {i:Nat} (h:i < l.length):rd_T48 l (i:Int)=l[i]:=getN h
theorem within_f (s a:Span45) (m:Nat) (ha:0≤a.f1):patch_within.f s.f0 s.f1 a.f0 a.f1 (m:Int)=some (spanB s a.f1 m):=by
 rw[patch_within.f]
 by_cases h1:a.f1≤s.f0
 ·
  rw[if_pos h1]
  by_cases h2:s.f0≤s.f1
  ·
   rw[if_pos h2]
   by_cases h3:s.f1≤2000
   ·
    rw[if_pos h3,gw (by omega) (by omega),spanB,decide_eq_true h1,decide_eq_true h2,decide_eq_true h3];simp only[Bool.true_and]
    congr 1
   (· (rw[if_neg h3,spanB,decide_eq_false h3];simp))
  (· (rw[if_neg h2,spanB,decide_eq_false h2];simp))
 (· (rw[if_neg h1,spanB,decide_eq_false h1];simp))
theorem spans_f (h:Hunk48) (hl:h.f0.length≤1000000):patch_spans.f h.f0 h.f1.f0 h.f1.f1 h.f2=some (h.f0 ++ [h.f1]):=by
 rw[patch_spans.f,slices_Clone_api_Span.f,if_pos (by omega),Option.bind_some,Option.bind_some,if_pos (by simp;omega)]
def countsH (h:Hunk48):List Nat:=(List.range h.f0.length).map (fun k:Nat=>(txP (ofB (k:Int)) h.f2).length) ++ [(txP notL h.f2).length]
theorem counts_f (h:Hunk48) (hl:h.f0.length≤1000000) (hr:lowB h.f2=true):Gives (fun k=>patch_counts.f k h.f0 h.f1.f0 h.f1.f1 h.f2) ((countsH h).map (fun m:Nat=>(m:Int))):=by
 obtain⟨h1,h2,h3⟩:=lowB_iff hr
 have hloop : ∀ (r i:Nat),i+r=h.f0.length→Gives (fun k=>patch_counts.l0 k ((List.range i).map (fun k:Nat=>((txP (ofB (k:Int)) h.f2).length:Int))) (h.f0.length:Int) (i:Int) h.f0 h.f1.f0 h.f1.f1 h.f2) ((countsH h).map (fun m:Nat=>(m:Int))):=by
  intro r
  induction r with
  | zero =>
   intro i hi;(refine Gives.of fun k=>?_);show patch_counts.l0 (k+1) _ _ _ _ _ _ _=_;rw[patch_counts.l0,if_neg (by omega),res_f (by omega) (fun x hx=>by have:=h2 x hx;omega),Option.bind_some,if_pos (by simp;omega)];(obtain rfl:i=h.f0.length:=by omega);(rw[countsH,List.map_append,List.map_map];rfl)
  | succ r ih =>
   intro i hi;have hn:=ih (i+1) (by omega);(rw[List.range_succ,List.map_append] at hn);(refine hn.step fun k=>?_);show patch_counts.l0 (k+1) _ _ _ _ _ _ _=_;(rw[patch_counts.l0,if_pos (by omega),col_f (i:Int) (by omega) (fun x hx=>by have:=h2 x hx;omega),Option.bind_some,if_pos (by simp;omega),gw1 (by omega)];rfl)
 (exact(hloop h.f0.length 0 (by omega)).same fun k=>rfl)
theorem rd45 {l:List Span45} {i:Nat} (h:i < l.length):rd_T45 l (i:Int)=l[i]:=getN h
theorem within_l1 {l:List Hunk48} {q:Nat} {S Ah:List Span45} {M:List Nat} (hA:Ah.length=S.length) (hM:M.length=S.length) (hS:S.length≤1000001) (hq:q≤1000000) (h0 : ∀ a ∈ Ah,0≤a.f1) {b:Bool} (hb:Gives (fun k=>patch_May.l0 k l l (l.length:Int) ((q+1:Nat):Int)) b) :
    ∀ (r i:Nat),i+r=S.length→Gives (fun k=>patch_May.l1 k l Ah (M.map (fun m:Nat=>(m:Int))) l (l.length:Int) (q:Int) S (S.length:Int) (i:Int)) ((List.range' i r).all (fun j=>spanB (rd_T45 S (j:Int)) (rd_T45 Ah (j:Int)).f1 (M.getD j 0)) && b):=by
 intro r
 induction r with
 | zero =>
  intro i hi;(refine(hb.eq (by simp)).step fun k=>?_);show patch_May.l1 (k+1) _ _ _ _ _ _ _ _ _=_;rw[patch_May.l1,if_neg (by omega),gw1 (by omega)]
 | succ r ih =>
  intro i hi;(have hiS:i < S.length:=by omega)
  have e1:rd (M.map (fun m:Nat=>(m:Int))) (i:Int)=((M.getD i 0:Nat):Int):=by
   rw[show rd (M.map (fun m:Nat=>(m:Int))) (i:Int)=(M.map (fun m:Nat=>(m:Int)))[i]'(by simp;omega) from getN (by simp;omega)];rw[List.getElem_map,List.getD_eq_getElem?_getD,List.getElem?_eq_getElem (by omega),Option.getD_some]
  have hw:=within_f (rd_T45 S (i:Int)) (rd_T45 Ah (i:Int)) (M.getD i 0) (by rw[rd45 (by omega)];exact h0 _ (List.getElem_mem _));rw[List.range'_succ,List.all_cons]
  cases hv:spanB (rd_T45 S (i:Int)) (rd_T45 Ah (i:Int)).f1 (M.getD i 0) with
  | true =>
   (rw[hv] at hw);(refine((ih (i+1) (by omega)).eq (by rw[Bool.true_and])).step fun k=>?_);show patch_May.l1 (k+1) _ _ _ _ _ _ _ _ _=_;rw[patch_May.l1,if_pos (by omega),if_pos (by omega),if_pos (by omega),if_pos (by omega),if_pos (by simp;omega),e1,hw,Option.bind_some,if_pos rfl,gw1 (by omega)]
  | false =>
   (rw[hv] at hw);(refine Gives.of fun k=>?_);show patch_May.l1 (k+1) _ _ _ _ _ _ _ _ _=_;(rw[patch_May.l1,if_pos (by omega),if_pos (by omega),if_pos (by omega),if_pos (by omega),if_pos (by simp;omega),e1,hw,Option.bind_some,if_neg (by decide)];rfl)
theorem within_no {l:List Hunk48} {q:Nat} {S Ah:List Span45} {M:List Nat} (hA:Ah.length=S.length) (hM:M.length=S.length) (hS:S.length≤1000001) (h0 : ∀ a ∈ Ah,0≤a.f1) :
    ∀ (r i:Nat),i+r=S.length→(List.range' i r).all (fun j=>spanB (rd_T45 S (j:Int)) (rd_T45 Ah (j:Int)).f1 (M.getD j 0))=false→Gives (fun k=>patch_May.l1 k l Ah (M.map (fun m:Nat=>(m:Int))) l (l.length:Int) (q:Int) S (S.length:Int) (i:Int)) false:=by
 intro r
 induction r with
 | zero=>intro i hi hf;simp at hf
 | succ r ih =>
  intro i hi hf;(have hiS:i < S.length:=by omega)
  have e1:rd (M.map (fun m:Nat=>(m:Int))) (i:Int)=((M.getD i 0:Nat):Int):=by
   rw[show rd (M.map (fun m:Nat=>(m:Int))) (i:Int)=(M.map (fun m:Nat=>(m:Int)))[i]'(by simp;omega) from getN (by simp;omega)];rw[List.getElem_map,List.getD_eq_getElem?_getD,List.getElem?_eq_getElem (by omega),Option.getD_some]
  have hw:=within_f (rd_T45 S (i:Int)) (rd_T45 Ah (i:Int)) (M.getD i 0) (by rw[rd45 (by omega)];exact h0 _ (List.getElem_mem _));(rw[List.range'_succ,List.all_cons] at hf)
  cases hv:spanB (rd_T45 S (i:Int)) (rd_T45 Ah (i:Int)).f1 (M.getD i 0) with
  | true =>
   (rw[hv] at hw hf);(rw[Bool.true_and] at hf);(refine(ih (i+1) (by omega) hf).step fun k=>?_);show patch_May.l1 (k+1) _ _ _ _ _ _ _ _ _=_;rw[patch_May.l1,if_pos (by omega),if_pos (by omega),if_pos (by omega),if_pos (by omega),if_pos (by simp;omega),e1,hw,Option.bind_some,if_pos rfl,gw1 (by omega)]
  | false =>
   (rw[hv] at hw);(refine Gives.of fun k=>?_);show patch_May.l1 (k+1) _ _ _ _ _ _ _ _ _=_;rw[patch_May.l1,if_pos (by omega),if_pos (by omega),if_pos (by omega),if_pos (by omega),if_pos (by simp;omega),e1,hw,Option.bind_some,if_neg (by decide)]
def aheadH (n:Nat):Option Hunk48→List Span45
  | none=>List.replicate (n+1) z45
  | some h=>h.f0 ++ [h.f1]
theorem all_spans (n0:Nat) (h:Hunk48) (last:Option Hunk48) (hn:h.f0.length=n0) (hl : ∀ g,last=some g→g.f0.length=n0) :
    (List.range' 0 (n0+1)).all (fun j=>spanB (rd_T45 (h.f0 ++ [h.f1]) (j:Int)) (rd_T45 (aheadH n0 last) (j:Int)).f1 ((countsH h).getD j 0))=((List.range n0).all (fun k=>spanB (spP (k:Int) h) (lastP last k) (txP (ofB (k:Int)) h.f2).length) && spanB h.f1 (lastR last) (txP notL h.f2).length):=by
 have hA:(aheadH n0 last).length=n0+1:=by
  cases last with
  | none=>simp[aheadH]
  | some g=>rw[aheadH,List.length_append,List.length_singleton,hl g rfl]
 (have hC:(countsH h).length=n0+1:=by rw[countsH,List.length_append,List.length_map,List.length_range,List.length_singleton,hn])
 have hk1 : ∀ k,k < n0→rd_T45 (h.f0 ++ [h.f1]) (k:Int)=spP (k:Int) h:=fun k hk=>by
  rw[rd45 (by rw[List.length_append];omega),List.getElem_append_left (by omega),spP,rd45 (by omega)]
 have hk2 : ∀ k,k < n0→(rd_T45 (aheadH n0 last) (k:Int)).f1=lastP last k:=fun k hk=>by
  cases last with
  | none=>rw[rd45 (by omega)];simp only[aheadH,List.getElem_replicate];rfl
  | some g =>
   have hg:=hl g rfl;rw[rd45 (by omega)];simp only[aheadH];rw[List.getElem_append_left (by omega),lastP,spP,rd45 (by omega)]
 have hk3 : ∀ k,k < n0→(countsH h).getD k 0=(txP (ofB (k:Int)) h.f2).length:=fun k hk=>by
  (rw[List.getD_eq_getElem?_getD,countsH,List.getElem?_append_left (by simp;omega),List.getElem?_map,List.getElem?_range (by omega)];rfl)
 have hn1:rd_T45 (h.f0 ++ [h.f1]) (n0:Int)=h.f1:=by
  rw[rd45 (by rw[List.length_append,List.length_singleton];omega),List.getElem_append_right (by omega)];simp only[hn,Nat.sub_self,List.getElem_cons_zero]
 have hn2:(rd_T45 (aheadH n0 last) (n0:Int)).f1=lastR last:=by
  cases last with
  | none=>rw[rd45 (by omega)];simp only[aheadH,List.getElem_replicate];rfl
  | some g =>
   have hg:=hl g rfl;rw[rd45 (by omega)];simp only[aheadH];rw[List.getElem_append_right (by omega)];(simp only[hg,Nat.sub_self,List.getElem_cons_zero];rfl)
 have hn3:(countsH h).getD n0 0=(txP notL h.f2).length:=by
  rw[List.getD_eq_getElem?_getD,countsH,List.getElem?_append_right (by simp;omega)];simp[hn]
 rw[← List.range_eq_range',List.range_succ,List.all_append]
 congr 1
 ·
  rw[Bool.eq_iff_iff,List.all_eq_true,List.all_eq_true];constructor
  ·
   intro H k hk;have:=H k hk;have hk':=List.mem_range.1 hk
   rwa [hk1 k hk',hk2 k hk',hk3 k hk'] at this
  (· intro H k hk;have hk':=List.mem_range.1 hk;rw[hk1 k hk',hk2 k hk',hk3 k hk'];exact H k hk)
 (· rw[List.all_cons,List.all_nil,Bool.and_true,hn1,hn2,hn3])
def prevH (l:List Hunk48) (i:Nat):Option Hunk48:=if i=0 then none else l[i - 1]?
def OkP (n0:Nat) (last:Option Hunk48):Prop := ∀ g,last=some g→g.f0.length=n0∧(∀ s ∈ g.f0,0≤s.f1)∧0≤g.f1.f1
theorem OkP.low {n0:Nat} {last:Option Hunk48} (h:OkP n0 last):(∀ k,k < n0→0≤lastP last k)∧0≤lastR last:=by
 cases last with
 | none=>exact⟨fun _ _=>Int.le_refl _,Int.le_refl _⟩
 | some g =>
  obtain⟨h1,h2,h3⟩:=h g rfl;refine⟨fun k hk=>?_,h3⟩;show 0≤(rd_T45 g.f0 (k:Int)).f1;rw[rd45 (by omega)];exact h2 _ (List.getElem_mem _)
theorem OkP.next {n0:Nat} {last:Option Hunk48} (h:OkP n0 last) {g:Hunk48} (hg:hunkB n0 last g=true):OkP n0 (some g):=fun g' e=>by
  cases e
  obtain⟨h1,h2,h3,h4,h5,h6⟩:=hunkB_iff.1 hg
  obtain⟨k1,k2⟩:=h.low
  refine⟨h4,fun s hs=>?_,?_⟩
  · obtain⟨k,hk,rfl⟩:=List.mem_iff_getElem.1 hs
    obtain⟨p1,p2,p3,p4⟩:=spanB_iff.1 (h5 k hk)
    have:=k1 k (by omega)
    rw[show spP (k:Int) g=g.f0[k] from rd45 hk] at p1 p2
    omega
  · obtain⟨p1,p2,p3,p4⟩:=spanB_iff.1 h6
    omega
theorem OkP.ahead {n0:Nat} {last:Option Hunk48} (h:OkP n0 last):(aheadH n0 last).length=n0+1 ∧ ∀ a ∈ aheadH n0 last,0≤a.f1:=by
 cases last with
 | none=>exact⟨by simp[aheadH],fun a ha=>by rw[List.eq_of_mem_replicate ha];exact Int.le_refl _⟩
 | some g =>
  obtain⟨h1,h2,h3⟩:=h g rfl;refine⟨by rw[aheadH,List.length_append,List.length_singleton,h1],fun a ha=>?_⟩
  rcases List.mem_append.1 ha with ha|ha
  (· exact h2 a ha);(· (rw[List.mem_singleton.1 ha];exact h3))
theorem may_hunks {l:List Hunk48} (hl:LowH l):Gives (fun k=>patch_May.f k l) (mayHB l):=by
 have hloop : ∀ (r i:Nat),i+r=l.length→OkP (firstN l) (prevH l i)→Gives (fun k=>patch_May.l0 k l l (l.length:Int) (i:Int)) (mayGo (firstN l) (prevH l i) (l.drop i)):=by
  intro r
  induction r with
  | zero =>
   intro i hi _;rw[List.drop_of_length_le (by omega)];(refine Gives.of fun k=>?_);show patch_May.l0 (k+1) _ _ _ _=_;(rw[patch_May.l0,if_neg (by omega)];rfl)
  | succ r ih =>
   intro i hi hok;(have hil:i < l.length:=by omega);obtain⟨h,hh⟩ : ∃ h,l[i]=h:=⟨_,rfl⟩;(have hmem:h ∈ l:=by rw[← hh];exact List.getElem_mem hil);obtain⟨b1,b2⟩:=hl.2 h hmem;obtain⟨c1,c2,c3⟩:=lowB_iff b2;have hll:=hl.1;(have hrd:rd_T48 l (i:Int)=h:=by rw[rdHunk hil,hh]);rw[dropCons hil,hh,mayGo]
   have hno:Gives (fun k=>patch_May.j1 k l (i:Int) l (l.length:Int) (i:Int) true h.f0 h.f1.f0 h.f1.f1 h.f2) false:=Gives.of fun k=>by
    show patch_May.j1 (k+1) _ _ _ _ _ _ _ _ _ _=_;rw[patch_May.j1,if_pos rfl]
   by_cases h0:h.f2=[]
   (· (refine(hno.eq (by rw[hunkB,decide_eq_true h0];rfl)).step fun k=>?_);show patch_May.l0 (k+1) _ _ _ _=_;rw[patch_May.l0,if_pos (by omega),if_pos (by omega),if_pos (by omega),hrd,if_pos (by rw[h0];rfl)])
   ·
    have hpos:0 < h.f2.length:=List.length_pos_iff.2 h0;have hm:=may_Hunk c2 c3 c1
    cases hmb:mayB h.f2 with
    | false =>
     (rw[hmb] at hm);(refine Gives.call hm (hno.eq (by rw[hunkB,hmb];simp)) fun k hk=>?_);show patch_May.l0 (k+1) _ _ _ _=_;rw[patch_May.l0,if_pos (by omega),if_pos (by omega),if_pos (by omega),hrd,if_neg (by omega),hk,Option.bind_some,if_neg (by decide)]
    | true =>
     (rw[hmb] at hm)
     by_cases h1:h.f0.length=marksN h.f2
     ·
      by_cases h2:h.f0.length=firstN l
      ·
       (have hm1:1≤h.f0.length∧h.f0.length≤16:=by rw[h1];exact(mayB_good hmb).2 h0)
       have hne:((h.f0.length:Int) != ((rd_T48 l 0).f0.length:Int))=false:=by
        (have:(h.f0.length:Int)=((rd_T48 l 0).f0.length:Int):=by exact_mod_cast h2);(rw[this];simp)
       obtain⟨a1,a2⟩:=hok.ahead
       have hnext:Gives (fun k=>patch_May.l0 k l l (l.length:Int) ((i+1:Nat):Int)) (mayGo (firstN l) (some h) (l.drop (i+1)))∨hunkB (firstN l) (prevH l i) h=false:=by
        cases hb:hunkB (firstN l) (prevH l i) h with
        | false=>exact .inr rfl
        | true =>
         left;(have e:prevH l (i+1)=some h:=by rw[prevH,if_neg (by omega),Nat.add_sub_cancel,List.getElem?_eq_getElem hil,hh]);have:=ih (i+1) (by omega) (by rw[e];exact hok.next hb)
         rwa [e] at this
       have hall:=all_spans (firstN l) h (prevH l i) h2 (fun g hg=>(hok g hg).1)
       have hhb:hunkB (firstN l) (prevH l i) h=((List.range (firstN l)).all (fun k=>spanB (spP (k:Int) h) (lastP (prevH l i) k) (txP (ofB (k:Int)) h.f2).length) && spanB h.f1 (lastR (prevH l i)) (txP notL h.f2).length):=by
        (rw[hunkB,decide_eq_false h0,hmb,decide_eq_true h1,decide_eq_true h2,h2];rfl)
       have hj2:Gives (fun k=>patch_May.j2 k l (aheadH (firstN l) (prevH l i)) l (l.length:Int) (i:Int) h.f0 h.f1.f0 h.f1.f1 h.f2) (hunkB (firstN l) (prevH l i) h && mayGo (firstN l) (some h) (l.drop (i+1))):=by
        have hl1:Gives (fun k=>patch_May.l1 k l (aheadH (firstN l) (prevH l i)) ((countsH h).map (fun m:Nat=>(m:Int))) l (l.length:Int) (i:Int) (h.f0 ++ [h.f1]) ((h.f0 ++ [h.f1]).length:Int) ((0:Nat):Int)) (hunkB (firstN l) (prevH l i) h && mayGo (firstN l) (some h) (l.drop (i+1))):=by
         (have hlen:(h.f0 ++ [h.f1]).length=firstN l+1:=by rw[List.length_append,List.length_singleton,h2]);(have hC:(countsH h).length=firstN l+1:=by rw[countsH,List.length_append,List.length_map,List.length_range,List.length_singleton,h2])
         rcases hnext with hn|hn
         (· have:=within_l1 (q:=i) (by rw[hlen];exact a1) (by rw[hlen];exact hC) (by rw[hlen];omega) (by omega) a2 hn (firstN l+1) 0 (by rw[hlen];omega);(rw[hall,← hhb] at this);exact this);(· rw[hn,Bool.false_and];exact within_no (by rw[hlen];exact a1) (by rw[hlen];exact hC) (by rw[hlen];omega) a2 (firstN l+1) 0 (by rw[hlen];omega) (by rw[hall,← hhb,hn]))
        obtain⟨K1,k1⟩:=counts_f h b1 b2;obtain⟨K2,k2⟩:=hl1;(dsimp only at k1 k2);(refine Gives.of' (K1+K2) fun k hk=>?_);show patch_May.j2 (k+1) _ _ _ _ _ _ _ _ _=_;rw[patch_May.j2,k1 k (by omega),Option.bind_some,spans_f h b1,Option.bind_some];exact k2 k (by omega)
       have hj1:Gives (fun k=>patch_May.j1 k l (i:Int) l (l.length:Int) (i:Int) false h.f0 h.f1.f0 h.f1.f1 h.f2) (hunkB (firstN l) (prevH l i) h && mayGo (firstN l) (some h) (l.drop (i+1))):=by
        (refine hj2.step fun k=>?_);show patch_May.j1 (k+1) _ _ _ _ _ _ _ _ _ _=_;have ew:wrap64 ((h.f0.length:Int)+1)=((h.f0.length+1:Nat):Int):=gw1 (by omega);rw[patch_May.j1,if_neg (by decide),ew,if_pos (by omega),if_pos (by omega)]
        by_cases hi0:i=0
        (· subst hi0;(rw[if_neg (by decide),Int.toNat_natCast,h2];rfl));(· (have e1:wrap64 ((i:Int) - 1)=((i - 1:Nat):Int):=by rw[gw (by omega) (by omega)];omega);(have hil1:i - 1 < l.length:=by omega);(rw[if_pos (by omega),e1,if_pos (by omega),if_pos (by omega),rdHunk hil1,spans_f _ (hl.2 _ (List.getElem_mem hil1)).1,Option.bind_some,prevH,if_neg hi0,List.getElem?_eq_getElem hil1];rfl))
       (refine Gives.call hm hj1 fun k hk=>?_);show patch_May.l0 (k+1) _ _ _ _=_;rw[patch_May.l0,if_pos (by omega),if_pos (by omega),if_pos (by omega),hrd,if_neg (by omega),hk,Option.bind_some,if_pos rfl,if_pos (by omega),if_pos (by exact_mod_cast h1),if_pos (by omega),hne]
      ·
       have hne:((h.f0.length:Int) != ((rd_T48 l 0).f0.length:Int))=true:=by
        (have : ¬ (h.f0.length:Int)=((rd_T48 l 0).f0.length:Int):=fun e=>h2 (by exact_mod_cast e));simpa using this
       (refine Gives.call hm (hno.eq (by rw[hunkB,decide_eq_false h2];simp)) fun k hk=>?_);show patch_May.l0 (k+1) _ _ _ _=_;rw[patch_May.l0,if_pos (by omega),if_pos (by omega),if_pos (by omega),hrd,if_neg (by omega),hk,Option.bind_some,if_pos rfl,if_pos (by omega),if_pos (by exact_mod_cast h1),if_pos (by omega),hne]
     (· (refine Gives.call hm (hno.eq (by rw[hunkB,decide_eq_false h1];simp)) fun k hk=>?_);show patch_May.l0 (k+1) _ _ _ _=_;rw[patch_May.l0,if_pos (by omega),if_pos (by omega),if_pos (by omega),hrd,if_neg (by omega),hk,Option.bind_some,if_pos rfl,if_pos (by omega),if_neg (fun e=>h1 (by exact_mod_cast e))])
 have:=hloop l.length 0 (by omega) (fun g e=>by cases e);(exact this.same fun k=>rfl)
theorem check_f {l:List Hunk48} (hl:LowH l) (column:Int) {file:List ByteArray} (hf:file.length≤1000000) (hs : ∀ s ∈ file,s.size≤1000000):Gives (fun k=>apply_check.f k l column file) (checkF l column file):=by
 have hj1:Gives (fun k=>apply_check.j0 k l true) 1:=Gives.of fun k=>by
  show apply_check.j0 (k+1) _ _=_;rw[apply_check.j0,if_pos rfl]
 have hj0:Gives (fun k=>apply_check.j0 k l false) (if mayHB l=false then 2 else 0):=by
  (refine Gives.last (may_hunks hl) fun k hk=>?_);show apply_check.j0 (k+1) _ _=_;rw[apply_check.j0,if_neg (by decide),hk,Option.bind_some];(cases mayHB l <;> rfl)
 have hm:=may_gives file (by omega) (fun s h=>by have:=hs s h;omega);rw[checkF]
 by_cases h0:column < 0
 (· rw[if_pos (.inl h0)];(refine hj1.same fun k=>?_);show apply_check.f k l column file=_;rw[apply_check.f,if_pos h0])
 ·
  have hmay : ¬ (0 < l.length∧column ≥ (firstN l:Int))→Gives (fun k=>(lines_May.f k file).bind fun t=>apply_check.j0 k l (!t)) (if column < 0∨(0 < l.length∧column ≥ (firstN l:Int))∨mayL file=false then 1 else if mayHB l=false then 2 else 0):=fun hn=>by
   cases hml:mayL file with
   | true =>
    (rw[hml] at hm);rw[if_neg (by rintro(h|h|h);exact h0 h;exact hn h;cases h)];obtain⟨K1,k1⟩:=hm;obtain⟨K2,k2⟩:=hj0;(dsimp only at k1 k2);exact⟨K1+K2,fun k hk=>by show Option.bind _ _=_;rw[k1 k (by omega),Option.bind_some];exact k2 k (by omega)⟩
   | false =>
    (rw[hml] at hm);rw[if_pos (.inr (.inr rfl))];obtain⟨K1,k1⟩:=hm;obtain⟨K2,k2⟩:=hj1;(dsimp only at k1 k2);exact⟨K1+K2,fun k hk=>by show Option.bind _ _=_;rw[k1 k (by omega),Option.bind_some];exact k2 k (by omega)⟩
  by_cases h1:0 < l.length
  ·
   by_cases h2:column ≥ (firstN l:Int)
   (· rw[if_pos (.inr (.inl ⟨h1,h2⟩))];(refine hj1.same fun k=>?_);show apply_check.f k l column file=_;rw[apply_check.f,if_neg h0,if_pos (by omega),if_pos (by omega),if_pos (show column ≥ ((rd_T48 l 0).f0.length:Int) from h2)]);(· (refine(hmay (fun h=>h2 h.2)).same fun k=>?_);show apply_check.f k l column file=_;rw[apply_check.f,if_neg h0,if_pos (by omega),if_pos (by omega),if_neg (show ¬ column ≥ ((rd_T48 l 0).f0.length:Int) from h2)])
  (· (refine(hmay (fun h=>h1 h.1)).same fun k=>?_);show apply_check.f k l column file=_;rw[apply_check.f,if_neg h0,if_neg (by omega)])
end Go.Proofs.YthcnfflhejogfaaDoor.X
