/-
  Parts of one proof, one behind the other: XOn2, XQn1, XHk1, XHk2, XHk3, XHk4, XHk5, XHk7, XHs1, XHr2, XHk9, XHkA, XHkC, XCard, XHr3, XHr4, XHr5, XHr6, XHr7.
-/
import Derived.Test.YthcnfflhejogfaaDoorBApplyOther6
import Derived.Lib.SplitLaws
import Derived.WalkMore
import Derived.Handy
import Derived.LoopIn
import Derived.Maps.OwnIn
import Derived.Maps.AppendAt
import Derived.Lib.SliceRun
import Derived.Handed
import Derived.Shelf.Vars
import Derived.Lib.CountLaws
import Derived.Lib.IndexBytes
import Derived.Lib.IndexLaws
set_option linter.unusedVariables false
set_option linter.unusedSimpArgs false
set_option maxRecDepth 100000
set_option maxHeartbeats 8000000
namespace Go.Proofs.YthcnfflhejogfaaDoor.X
open Go.RowKit Go.Proofs.YthcnfflhejogfaaDoorW.PrintWords Go.Proofs.YthcnfflhejogfaaDoorW.PrintLast Go.Proofs.YthcnfflhejogfaaDoorW.PrintMore
attribute [local go_sem] max2_int min2_int max_two min_two max_three min_three max_four min_four
mutual
def patch_May.l0:Nat→List (S48)→List (S48)→Int→Int→Option (Bool)
  | 0,_,_,_,_=>none
  | k+1,x0,x9,x10,x11=>if x11 < x10 then (if 0≤x11 then (if x11 < (x9.length:Int) then (if (((rd_T48 x9 x11).f2).length:Int)=0 then (patch_May.j1 k x0 x11 x9 x10 x11 true ((rd_T48 x9 x11).f0) ((rd_T48 x9 x11).f1.f0) ((rd_T48 x9 x11).f1.f1) ((rd_T48 x9 x11).f2)) else ((hunk_May.f k ((rd_T48 x9 x11).f2)).bind fun t113=>(if t113=true then (if 0 < (((rd_T48 x9 x11).f2).length:Int) then (if (((rd_T48 x9 x11).f0).length:Int)=(((rd_T57 ((rd_T48 x9 x11).f2) 0).f0).size:Int) then (if 0 < (x0.length:Int) then (patch_May.j1 k x0 x11 x9 x10 x11 ((((rd_T48 x9 x11).f0).length:Int) != (((rd_T48 x0 0).f0).length:Int)) ((rd_T48 x9 x11).f0) ((rd_T48 x9 x11).f1.f0) ((rd_T48 x9 x11).f1.f1) ((rd_T48 x9 x11).f2)) else (none)) else (patch_May.j1 k x0 x11 x9 x10 x11 true ((rd_T48 x9 x11).f0) ((rd_T48 x9 x11).f1.f0) ((rd_T48 x9 x11).f1.f1) ((rd_T48 x9 x11).f2))) else (none)) else (patch_May.j1 k x0 x11 x9 x10 x11 true ((rd_T48 x9 x11).f0) ((rd_T48 x9 x11).f1.f0) ((rd_T48 x9 x11).f1.f1) ((rd_T48 x9 x11).f2))))) else (none)) else (none)) else (some true)
def patch_May.j1:Nat→List (S48)→Int→List (S48)→Int→Int→Bool→List (S45)→Int→Int→List (S57)→Option (Bool)
  | 0,_,_,_,_,_,_,_,_,_,_=>none
  | k+1,x0,x3,x9,x10,x11,x48,x113000,x113001,x113002,x113003=>if x48=true then (some false) else (if 0≤(wrap64 ((x113000.length:Int)+1)) then (if (wrap64 ((x113000.length:Int)+1):Int).toNat≤17592186044416 then (if x3 > 0 then (if 0≤(wrap64 (x3 - 1)) then (if (wrap64 (x3 - 1)) < (x0.length:Int) then ((patch_spans.f ((rd_T48 x0 (wrap64 (x3 - 1))).f0) ((rd_T48 x0 (wrap64 (x3 - 1))).f1.f0) ((rd_T48 x0 (wrap64 (x3 - 1))).f1.f1) ((rd_T48 x0 (wrap64 (x3 - 1))).f2)).bind fun t120=>(patch_May.j2 k x0 t120 x9 x10 x11 x113000 x113001 x113002 x113003)) else (none)) else (none)) else (patch_May.j2 k x0 (List.replicate (wrap64 ((x113000.length:Int)+1):Int).toNat z45) x9 x10 x11 x113000 x113001 x113002 x113003)) else (none)) else (none))
def patch_May.j2:Nat→List (S48)→List (S45)→List (S48)→Int→Int→List (S45)→Int→Int→List (S57)→Option (Bool)
  | 0,_,_,_,_,_,_,_,_,_=>none
  | k+1,x0,x5,x9,x10,x11,x113000,x113001,x113002,x113003=>(patch_counts.f k x113000 x113001 x113002 x113003).bind fun t123=>((patch_spans.f x113000 x113001 x113002 x113003).bind fun t126=>(patch_May.l1 k x0 x5 t123 x9 x10 x11 t126 (t126.length:Int) 0))
def patch_May.l1:Nat→List (S48)→List (S45)→List Int→List (S48)→Int→Int→List (S45)→Int→Int→Option (Bool)
  | 0,_,_,_,_,_,_,_,_,_=>none
  | k+1,x0,x5,x6,x9,x10,x11,x65,x66,x67=>if x67 < x66 then (if 0≤x67 then (if x67 < (x65.length:Int) then (if x67 < (x5.length:Int) then (if x67 < (x6.length:Int) then ((patch_within.f ((rd_T45 x65 x67).f0) ((rd_T45 x65 x67).f1) ((rd_T45 x5 x67).f0) ((rd_T45 x5 x67).f1) (rd x6 x67)).bind fun t133=>(if t133=true then (patch_May.l1 k x0 x5 x6 x9 x10 x11 x65 x66 (wrap64 (x67+1))) else (some false))) else (none)) else (none)) else (none)) else (none)) else (patch_May.l0 k x0 x9 x10 (wrap64 (x11+1)))
end
def patch_May.f (k:Nat) (l0:List (S48)):Option (Bool):=patch_May.l0 k l0 l0 (l0.length:Int) 0
def patch_May.T4:Bool × List (List Nat × List Nat):=(true,[([],[]),([0],[0]),([1],[1]),([2],[2]),([3],[3]),([4],[4]),([5,4],[4,5]),([6,4,4],[4,6]),([7,4],[4,7]),([4,8],[4,8]),([9,7],[9]),([10],[10]),([11,10],[10,11]),([12,10],[10,12]),([10],[10]),([14,10],[10,14]),([15,10],[10,15]),([16,10],[10,16]),([17,10],[10,17]),([18,10],[10,18]),([13,19,10],[10,13,19]),([10,20],[10,20]),([21,10],[21]),([22],[22]),([23,22],[22,23]),([24,22],[22,24]),([22],[22]),([26,22],[22,26]),([27,22],[22,27]),([28,22],[22,28]),([29,22],[22,29]),([25,30,22],[22,25,30]),([22,31],[22,31])])
def patch_May.B4:List Nat:=[0,1,3,7,15,31,63,127,255,511,1023,2047,4095,8191,2047,18431,51199,116735,247807,509951,1048575,2097151,4194303,8388607,16777215,33554431,8388607,75497471,209715199,478150655,1015021567,2147483647,4294967295]
theorem patch_May.tab4:rtab .any (opsOf Tryd.f95 4)=patch_May.T4:=by kernel_rfl
theorem patch_May.bits4:waitsOk patch_May.T4.2 patch_May.B4=true:=by kernel_rfl
def patch_May.T13:Bool × List (List Nat × List Nat):=(true,[([],[]),([],[]),([],[]),([1,2],[1,2]),([3],[3]),([],[]),([],[]),([5,6],[5,6]),([7],[7]),([0,4,8],[0,4,8]),([9],[9])])
def patch_May.B13:List Nat:=[0,0,0,6,14,0,0,96,224,511,1023]
theorem patch_May.tab13:rtab .any (opsOf Tryd.f95 13)=patch_May.T13:=by kernel_rfl
theorem patch_May.bits13:waitsOk patch_May.T13.2 patch_May.B13=true:=by kernel_rfl
theorem patch_May.calls (k:Nat) (A0:Option Addr) (c0:Nat) (l0:List (S48)) (r:Bool) (w:World) (hr0:Kd.C k48 w A0 l0.length l0) (hc0:l0.length≤c0) (h:patch_May.f k l0=some r) :
    Calls Tryd.prog 95 #[.slice A0 l0.length c0] w fun e w'=>e = .returned (.bool r)∧Below w.heap.size w w':=by
 have hu48:=Tryd.underlying48;have hu45:=Tryd.underlying45;have HR0:=Aside0.mk hr0;have HC0:=Aside0.mk hc0;clear hr0 hc0;have HB:=Aside0.mk (Below.refl w.heap.size w);have H:=h;(rw[patch_May.f] at H);clear h;have H':=Aside0.mk H;clear H;go_enter Tryd.func95,Tryd.ntmps95;go_wp2
 go_loopg [11] k (fun kq v11 w' => ∃ (x11_1:Int),v11 = .int .i64 x11_1∧Aside0 (patch_May.l0 kq l0 l0 (l0.length:Int) x11_1=some r)∧Aside0 (kq≤k)∧Aside0 (Below w.heap.size w w'))
 (case atStart=>exact⟨(0),rs_,H',⟨Nat.le_refl _⟩,⟨bel_⟩⟩)
 case round =>
  clear H';obtain⟨x11_1,rfl,HA,HK1,HB⟩:=hrel
  cases gk with
  | zero=>exact absurd HA.out (by simp[patch_May.l0])
  | succ k1 =>
   have H:=HA.out;clear HA;(simp only[patch_May.l0] at H)
   by_cases c2:x11_1 < (l0.length:Int)
   ·
    (rw[if_pos c2] at H);have c2b0:decide (x11_1 < (l0.length:Int))=true:=decide_eq_true c2;clear c2
    by_cases c3:0≤x11_1
    ·
     (rw[if_pos c3] at H);have c3b0:decide (0≤x11_1)=true:=decide_eq_true c3;clear c3
     by_cases c4:x11_1 < (l0.length:Int)
     ·
      (rw[if_pos c4] at H);have c4b0:decide (x11_1 < (l0.length:Int))=true:=decide_eq_true c4;clear c4;have HC5:=Aside0.mk H;clear H;have p111:0≤(x11_1:Int):=dt_;have q111:x11_1 < (l0.length:Int):=dt_;obtain⟨ad111,A111_0,c111_0,A111_3,c111_3,e111,hx111_0,hx111_1,hx111_2,hx111_3,hl111_0,hi111_0,hl111_3,hi111_3⟩:=at_T48 HR0.out x11_1 p111 q111;cases e111;replace hx111_0:=(HB.out.cell (World.block_lt_of_cell? w _ hx111_0)).trans hx111_0;replace hx111_1:=(HB.out.cell (World.block_lt_of_cell? w _ hx111_1)).trans hx111_1;replace hx111_2:=(HB.out.cell (World.block_lt_of_cell? w _ hx111_2)).trans hx111_2;replace hx111_3:=(HB.out.cell (World.block_lt_of_cell? w _ hx111_3)).trans hx111_3;have HR111_0:=Aside0.mk hi111_0;have HC111_0:=Aside0.mk hl111_0;clear hi111_0 hl111_0;have HR111_3:=Aside0.mk hi111_3;have HC111_3:=Aside0.mk hl111_3;clear hi111_3 hl111_3;replace p111:=eq_true p111;replace q111:=eq_true q111
      go_upto_region 4 with (first|((with_reducible refine gate_dst (N:=4) rfl ?_);(try(refine gate_guard (by rfl) ?_;dsimp only));refine box_event ?hg (N:=4) ?hd (cs:=#[.slice none 0 0, .int .i64 0, .int .i64 0, .slice none 0 0]) (t:=48) ?hr ?_;(case hd=>rfl);(case hg=>rfl);(case hr=>first|(go_simp;done)|(go_simp;rfl));intro gb112 hg w6 hbox hb;have BK112:=Aside0.mk (hbox);have GW112:=Aside0.mk ((by rw[hg];exact(below_size bel_):w.heap.size≤gb112));have GE112:=Aside0.mk ((by rw[hg];exact(below_size bel_):w.heap.size≤gb112));replace HB:=Aside0.mk (below_step bel_ hb);clear hb hbox hg;have hcz7_0:w6.cell? ⟨gb112,0,none⟩=some (.slice none 0 0):=(blk_cell BK112.out 0).trans rfl;have hcz7_1:w6.cell? ⟨gb112,1,none⟩=some (.int .i64 0):=(blk_cell BK112.out 1).trans rfl;have hcz7_2:w6.cell? ⟨gb112,2,none⟩=some (.int .i64 0):=(blk_cell BK112.out 2).trans rfl;have hcz7_3:w6.cell? ⟨gb112,3,none⟩=some (.slice none 0 0):=(blk_cell BK112.out 3).trans rfl;have hfz7_0:=blk_frozen BK112.out 0;have hfz7_1:=blk_frozen BK112.out 1;have hfz7_2:=blk_frozen BK112.out 2;have hfz7_3:=blk_frozen BK112.out 3))
      (try simp only[Act.put,List.setIfInBounds_toArray,List.set_cons_zero,List.set_cons_succ])
      go_cut [48] (fun v48 wc => ∃ (kq:Nat) (x48_4:Bool),v48 = .bool x48_4∧Aside0 (patch_May.j1 kq l0 x11_1 l0 (l0.length:Int) x11_1 x48_4 ((rd_T48 l0 x11_1).f0) ((rd_T48 l0 x11_1).f1.f0) ((rd_T48 l0 x11_1).f1.f1) ((rd_T48 l0 x11_1).f2)=some r)∧Aside0 (kq≤k1)∧Aside0 (wc.heap[gb112]? = some (.cells #[(.slice A111_0 ((rd_T48 l0 x11_1).f0).length c111_0), .int .i64 ((rd_T48 l0 x11_1).f1.f0), .int .i64 ((rd_T48 l0 x11_1).f1.f1),(.slice A111_3 ((rd_T48 l0 x11_1).f2).length c111_3)] 48 (0,0)))∧Aside0 (Below w.heap.size w wc))
      case first =>
       have H:=HC5.out;clear HC5
       by_cases c8:(((rd_T48 l0 x11_1).f2).length:Int)=0
       ·
        (rw[if_pos c8] at H);have c8b0:((((rd_T48 l0 x11_1).f2).length:Int) == 0)=true:=beq_iff_eq.mpr c8;have c8b1:((((rd_T48 l0 x11_1).f2).length:Int) != 0)=false:=bne_eq_false_iff_eq.mpr c8;clear c8;(first|rw[c8b0]|(simp only[i64_w,i32_w];rw[c8b0])|skip);have H':=Aside0.mk H;clear H;(try go_wp2);have n0_:Aside0 (((((w6.setCell ⟨gb112,0,none⟩ (.slice A111_0 ((rd_T48 l0 x11_1).f0).length c111_0)).setCell ⟨gb112,1,none⟩ (.int .i64 ((rd_T48 l0 x11_1).f1.f0))).setCell ⟨gb112,2,none⟩ (.int .i64 ((rd_T48 l0 x11_1).f1.f1))).setCell ⟨gb112,3,none⟩ (.slice A111_3 ((rd_T48 l0 x11_1).f2).length c111_3)).heap[gb112]? = some (.cells #[.slice A111_0 ((rd_T48 l0 x11_1).f0).length c111_0, .int .i64 ((rd_T48 l0 x11_1).f1.f0), .int .i64 ((rd_T48 l0 x11_1).f1.f1), .slice A111_3 ((rd_T48 l0 x11_1).f2).length c111_3] 48 (0,0))):=⟨by(with_reducible repeat(first|refine blk_drewN ?_ _|refine blk_drew ?_|refine blk_alloc ?_ _));refine blk_put (cs:=#[.slice A111_0 ((rd_T48 l0 x11_1).f0).length c111_0, .int .i64 ((rd_T48 l0 x11_1).f1.f0), .int .i64 ((rd_T48 l0 x11_1).f1.f1), .slice none 0 0]) ?_ 3 _ rfl;(with_reducible repeat(first|refine blk_drewN ?_ _|refine blk_drew ?_|refine blk_alloc ?_ _));refine blk_put (cs:=#[.slice A111_0 ((rd_T48 l0 x11_1).f0).length c111_0, .int .i64 ((rd_T48 l0 x11_1).f1.f0), .int .i64 0, .slice none 0 0]) ?_ 2 _ rfl;(with_reducible repeat(first|refine blk_drewN ?_ _|refine blk_drew ?_|refine blk_alloc ?_ _));refine blk_put (cs:=#[.slice A111_0 ((rd_T48 l0 x11_1).f0).length c111_0, .int .i64 0, .int .i64 0, .slice none 0 0]) ?_ 1 _ rfl;(with_reducible repeat(first|refine blk_drewN ?_ _|refine blk_drew ?_|refine blk_alloc ?_ _));refine blk_put (cs:=#[.slice none 0 0, .int .i64 0, .int .i64 0, .slice none 0 0]) ?_ 0 _ rfl;(with_reducible repeat(first|refine blk_drewN ?_ _|refine blk_drew ?_|refine blk_alloc ?_ _));exact BK112.out⟩;have n1_:Aside0 (Below w.heap.size w ((((w6.setCell ⟨gb112,0,none⟩ (.slice A111_0 ((rd_T48 l0 x11_1).f0).length c111_0)).setCell ⟨gb112,1,none⟩ (.int .i64 ((rd_T48 l0 x11_1).f1.f0))).setCell ⟨gb112,2,none⟩ (.int .i64 ((rd_T48 l0 x11_1).f1.f1))).setCell ⟨gb112,3,none⟩ (.slice A111_3 ((rd_T48 l0 x11_1).f2).length c111_3))):=⟨bs1_ GE112.out⟩;(try clear BK112);(try clear HB);(generalize ((((w6.setCell ⟨gb112,0,none⟩ (.slice A111_0 ((rd_T48 l0 x11_1).f0).length c111_0)).setCell ⟨gb112,1,none⟩ (.int .i64 ((rd_T48 l0 x11_1).f1.f0))).setCell ⟨gb112,2,none⟩ (.int .i64 ((rd_T48 l0 x11_1).f1.f1))).setCell ⟨gb112,3,none⟩ (.slice A111_3 ((rd_T48 l0 x11_1).f2).length c111_3))=w9 at n0_ n1_ ⊢);have BK112:=n0_;have HB:=n1_;clear n0_ n1_;replace BK112:=Aside0.mk (blk_drew BK112.out);replace HB:=Aside0.mk (below_drew1 HB.out);(refine start_ (n:=33) (S:=fun w'=>w'.cell? ⟨gb112,0,none⟩=some (.slice A111_0 ((rd_T48 l0 x11_1).f0).length c111_0)∧w'.cell? ⟨gb112,1,none⟩=some (.int .i64 ((rd_T48 l0 x11_1).f1.f0))∧w'.cell? ⟨gb112,2,none⟩=some (.int .i64 ((rd_T48 l0 x11_1).f1.f1))∧w'.cell? ⟨gb112,3,none⟩=some (.slice A111_3 ((rd_T48 l0 x11_1).f2).length c111_3)) (ds:=[]) (bm_ 33 0) (by kernel_rfl) rfl rfl ⟨(blk_cell BK112.out 0).trans rfl,(blk_cell BK112.out 1).trans rfl,(blk_cell BK112.out 2).trans rfl,(blk_cell BK112.out 3).trans rfl⟩ (fun hHeld=>?_);refine with_tabW patch_May.tab4 patch_May.bits4 (fun HT_ HW_=>?_));(generalize w9.drew=w10 at BK112 HB hHeld ⊢);refine pq_ (i:=0) (N:=some 16) (hc:=any_of HT_.out (by kernel_rfl)) (bm_ 33 1) ?_;refine tq_ (i:=1) (N:=some 17) (hc:=take_ofW HT_.out HW_.out (by kernel_rfl)) (bm_ 33 3) hHeld ?_;refine pq_ (i:=2) (N:=some 18) (hc:=any_of HT_.out (by kernel_rfl)) (bm_ 33 7) ?_;refine pure_ (i:=3) (N:=some 19) (v:=?_) (a':=?_) (bm_ 33 15) rfl rfl (any_of HT_.out (by kernel_rfl)) (fun _ _ _ h=>h) (Or.inl ⟨by rfl,?_⟩) ?_ ?_;rotate_left
        (· intro w';go_simp;(with_reducible rfl));rotate_left;(· simp only[Act.put,List.setIfInBounds_toArray,List.set_cons_zero,List.set_cons_succ,i64_w,i32_w];rfl);refine pq_ (i:=4) (N:=some 20) (hc:=any_of HT_.out (by kernel_rfl)) (bm_ 33 31) ?_;refine pu_ (i:=5) (N:=some 21) (hc:=any_of HT_.out (by kernel_rfl)) (bm_ 33 63) ?_;refine pu_ (i:=6) (N:=some 22) (hc:=any_of HT_.out (by kernel_rfl)) (bm_ 33 127) ?_;refine pu_ (i:=7) (N:=some 23) (hc:=any_of HT_.out (by kernel_rfl)) (bm_ 33 255) ?_;refine pu_ (i:=8) (N:=some 24) (hc:=any_of HT_.out (by kernel_rfl)) (bm_ 33 511) ?_;refine pq_ (i:=9) (N:=some 25) (hc:=any_of HT_.out (by kernel_rfl)) (bm_ 33 1023) ?_;refine pq_ (i:=10) (N:=some 26) (hc:=any_of HT_.out (by kernel_rfl)) (bm_ 33 2047) ?_;refine pu_ (i:=11) (N:=some 27) (hc:=any_of HT_.out (by kernel_rfl)) (bm_ 33 4095) ?_;refine pu_ (i:=12) (N:=some 28) (hc:=any_of HT_.out (by kernel_rfl)) (bm_ 33 8191) ?_;refine pu_ (i:=13) (N:=some 29) (hc:=any_of HT_.out (by kernel_rfl)) (bm_ 33 16383) ?_;refine pu_ (i:=14) (N:=some 30) (hc:=any_of HT_.out (by kernel_rfl)) (bm_ 33 32767) ?_
        refine pu_ (i:=15) (N:=some 31) (hc:=any_of HT_.out (by kernel_rfl)) (bm_ 33 65535) ?_;refine pu_ (i:=16) (N:=some 32) (hc:=any_of HT_.out (by kernel_rfl)) (bm_ 33 131071) ?_;refine pu_ (i:=17) (N:=some 33) (hc:=any_of HT_.out (by kernel_rfl)) (bm_ 33 262143) ?_;refine pu_ (i:=18) (N:=some 34) (hc:=any_of HT_.out (by kernel_rfl)) (bm_ 33 524287) ?_;refine pu_ (i:=19) (N:=some 35) (hc:=any_of HT_.out (by kernel_rfl)) (bm_ 33 1048575) ?_;refine pu_ (i:=20) (N:=some 36) (hc:=any_of HT_.out (by kernel_rfl)) (bm_ 33 2097151) ?_;refine pq_ (i:=21) (N:=some 37) (hc:=any_of HT_.out (by kernel_rfl)) (bm_ 33 4194303) ?_;refine pq_ (i:=22) (N:=some 38) (hc:=any_of HT_.out (by kernel_rfl)) (bm_ 33 8388607) ?_;refine pu_ (i:=23) (N:=some 39) (hc:=any_of HT_.out (by kernel_rfl)) (bm_ 33 16777215) ?_;refine pu_ (i:=24) (N:=some 40) (hc:=any_of HT_.out (by kernel_rfl)) (bm_ 33 33554431) ?_;refine pu_ (i:=25) (N:=some 41) (hc:=any_of HT_.out (by kernel_rfl)) (bm_ 33 67108863) ?_;refine pu_ (i:=26) (N:=some 42) (hc:=any_of HT_.out (by kernel_rfl)) (bm_ 33 134217727) ?_
        refine pu_ (i:=27) (N:=some 43) (hc:=any_of HT_.out (by kernel_rfl)) (bm_ 33 268435455) ?_;refine pu_ (i:=28) (N:=some 44) (hc:=any_of HT_.out (by kernel_rfl)) (bm_ 33 536870911) ?_;refine pu_ (i:=29) (N:=some 45) (hc:=any_of HT_.out (by kernel_rfl)) (bm_ 33 1073741823) ?_;refine pu_ (i:=30) (N:=some 46) (hc:=any_of HT_.out (by kernel_rfl)) (bm_ 33 2147483647) ?_;refine pu_ (i:=31) (N:=some 47) (hc:=any_of HT_.out (by kernel_rfl)) (bm_ 33 4294967295) ?_;refine pq_ (i:=32) (N:=some 48) (hc:=any_of HT_.out (by kernel_rfl)) (bm_ 33 8589934591) ?_;refine done_ (done_of HT_.out (by kernel_rfl)) ?_;(try go_wp2)
        go_meet
        (case rel=>exact⟨_,(true),rs_,H',⟨by have:=HK1.out;first|omega|exact Nat.le_refl _⟩,⟨pK_ BK112.out⟩,⟨bs1_ GE112.out⟩⟩)
       ·
        (rw[if_neg c8] at H);have c8b0:((((rd_T48 l0 x11_1).f2).length:Int) == 0)=false:=beq_eq_false_iff_ne.mpr c8;have c8b1:((((rd_T48 l0 x11_1).f2).length:Int) != 0)=true:=bne_iff_ne.mpr c8;(have c8b2 : ¬ (((rd_T48 l0 x11_1).f2)=[]):=fun h_=>c8 (by rw[h_];rfl));(first|rw[c8b0]|(simp only[i64_w,i32_w];rw[c8b0])|skip);replace H:=Option.bind_eq_some_iff.mp H;obtain⟨t113,A110,H⟩:=H;(try dsimp only at H);have A11:=Aside0.mk A110;clear A110
        by_cases c12:t113=true
        ·
         subst c12;have H1:=H;(rw[if_pos rfl] at H1);clear H;have H:=H1;clear H1
         by_cases c13:0 < (((rd_T48 l0 x11_1).f2).length:Int)
         ·
          (rw[if_pos c13] at H);have c13b0:decide (0 < (((rd_T48 l0 x11_1).f2).length:Int))=true:=decide_eq_true c13;have c13b1:decide (0 < ((rd_T48 l0 x11_1).f2).length)=true:=decide_eq_true (by omega);clear c13
          by_cases c14:(((rd_T48 l0 x11_1).f0).length:Int)=(((rd_T57 ((rd_T48 l0 x11_1).f2) 0).f0).size:Int)
          ·
           (rw[if_pos c14] at H);have c14b0:((((rd_T48 l0 x11_1).f0).length:Int) == (((rd_T57 ((rd_T48 l0 x11_1).f2) 0).f0).size:Int))=true:=beq_iff_eq.mpr c14;have c14b1:((((rd_T48 l0 x11_1).f0).length:Int) != (((rd_T57 ((rd_T48 l0 x11_1).f2) 0).f0).size:Int))=false:=bne_eq_false_iff_eq.mpr c14;(have c14b2:(((rd_T48 l0 x11_1).f0).length == ((rd_T57 ((rd_T48 l0 x11_1).f2) 0).f0).size)=true:=by first|simpa using c14|(simp at c14 ⊢;omega));clear c14
           by_cases c15:0 < (l0.length:Int)
           ·
            (rw[if_pos c15] at H);have c15b0:decide (0 < (l0.length:Int))=true:=decide_eq_true c15;have c15b1:decide (0 < l0.length)=true:=decide_eq_true (by omega);clear c15;have H':=Aside0.mk H;clear H;(try go_wp2);have n0_:Aside0 (((((w6.setCell ⟨gb112,0,none⟩ (.slice A111_0 ((rd_T48 l0 x11_1).f0).length c111_0)).setCell ⟨gb112,1,none⟩ (.int .i64 ((rd_T48 l0 x11_1).f1.f0))).setCell ⟨gb112,2,none⟩ (.int .i64 ((rd_T48 l0 x11_1).f1.f1))).setCell ⟨gb112,3,none⟩ (.slice A111_3 ((rd_T48 l0 x11_1).f2).length c111_3)).heap[gb112]? = some (.cells #[.slice A111_0 ((rd_T48 l0 x11_1).f0).length c111_0, .int .i64 ((rd_T48 l0 x11_1).f1.f0), .int .i64 ((rd_T48 l0 x11_1).f1.f1), .slice A111_3 ((rd_T48 l0 x11_1).f2).length c111_3] 48 (0,0))):=⟨by(with_reducible repeat(first|refine blk_drewN ?_ _|refine blk_drew ?_|refine blk_alloc ?_ _));refine blk_put (cs:=#[.slice A111_0 ((rd_T48 l0 x11_1).f0).length c111_0, .int .i64 ((rd_T48 l0 x11_1).f1.f0), .int .i64 ((rd_T48 l0 x11_1).f1.f1), .slice none 0 0]) ?_ 3 _ rfl;(with_reducible repeat(first|refine blk_drewN ?_ _|refine blk_drew ?_|refine blk_alloc ?_ _));refine blk_put (cs:=#[.slice A111_0 ((rd_T48 l0 x11_1).f0).length c111_0, .int .i64 ((rd_T48 l0 x11_1).f1.f0), .int .i64 0, .slice none 0 0]) ?_ 2 _ rfl;(with_reducible repeat(first|refine blk_drewN ?_ _|refine blk_drew ?_|refine blk_alloc ?_ _));refine blk_put (cs:=#[.slice A111_0 ((rd_T48 l0 x11_1).f0).length c111_0, .int .i64 0, .int .i64 0, .slice none 0 0]) ?_ 1 _ rfl;(with_reducible repeat(first|refine blk_drewN ?_ _|refine blk_drew ?_|refine blk_alloc ?_ _));refine blk_put (cs:=#[.slice none 0 0, .int .i64 0, .int .i64 0, .slice none 0 0]) ?_ 0 _ rfl;(with_reducible repeat(first|refine blk_drewN ?_ _|refine blk_drew ?_|refine blk_alloc ?_ _));exact BK112.out⟩;have n1_:Aside0 (Below w.heap.size w ((((w6.setCell ⟨gb112,0,none⟩ (.slice A111_0 ((rd_T48 l0 x11_1).f0).length c111_0)).setCell ⟨gb112,1,none⟩ (.int .i64 ((rd_T48 l0 x11_1).f1.f0))).setCell ⟨gb112,2,none⟩ (.int .i64 ((rd_T48 l0 x11_1).f1.f1))).setCell ⟨gb112,3,none⟩ (.slice A111_3 ((rd_T48 l0 x11_1).f2).length c111_3))):=⟨bs1_ GE112.out⟩;(try clear BK112);(try clear HB);(generalize ((((w6.setCell ⟨gb112,0,none⟩ (.slice A111_0 ((rd_T48 l0 x11_1).f0).length c111_0)).setCell ⟨gb112,1,none⟩ (.int .i64 ((rd_T48 l0 x11_1).f1.f0))).setCell ⟨gb112,2,none⟩ (.int .i64 ((rd_T48 l0 x11_1).f1.f1))).setCell ⟨gb112,3,none⟩ (.slice A111_3 ((rd_T48 l0 x11_1).f2).length c111_3))=w16 at n0_ n1_ ⊢);have BK112:=n0_;have HB:=n1_;clear n0_ n1_;replace BK112:=Aside0.mk (blk_drew BK112.out);replace HB:=Aside0.mk (below_drew1 HB.out);have p114:0≤(0:Int):=(by omega);have q114:0 < (((rd_T48 l0 x11_1).f2).length:Int):=dt_;obtain⟨ad114,e114,hx114_0,hx114_1⟩:=at_T57 HR111_3.out 0 p114 q114;have hw114_1:=hx114_1;(try rw[show ((0:Int)).toNat=0 from rfl] at hw114_1);(try rw[show 0 * 2=0 from rfl] at hw114_1);(try rw[Addr.add_zero'] at hw114_1);have hw114_0:=hx114_0;(try rw[show ((0:Int)).toNat=0 from rfl] at hw114_0);(try rw[show 0 * 2=0 from rfl] at hw114_0);(try rw[Addr.add_zero'] at hw114_0);cases e114;have qi114:(0 < ((rd_T48 l0 x11_1).f2).length)=True:=eq_true (by omega);(try rw[show ((0:Int)).toNat=0 from rfl] at hx114_0);(try rw[show 0 * 2=0 from rfl] at hx114_0);(try rw[Addr.add_zero'] at hx114_0);(try rw[show ((0:Int)).toNat=0 from rfl] at hx114_1);(try rw[show 0 * 2=0 from rfl] at hx114_1);(try rw[Addr.add_zero'] at hx114_1);replace hx114_0:=(HB.out.cell (World.block_lt_of_cell? w _ hx114_0)).trans hx114_0;replace hx114_1:=(HB.out.cell (World.block_lt_of_cell? w _ hx114_1)).trans hx114_1;replace p114:=eq_true p114;replace q114:=eq_true q114;have p115:0≤(0:Int):=(by omega);have q115:0 < (l0.length:Int):=dt_;obtain⟨ad115,A115_0,c115_0,A115_3,c115_3,e115,hx115_0,hx115_1,hx115_2,hx115_3,hl115_0,hi115_0,hl115_3,hi115_3⟩:=at_T48 HR0.out 0 p115 q115;have hw115_3:=hx115_3;(try rw[show ((0:Int)).toNat=0 from rfl] at hw115_3);(try rw[show 0 * 4=0 from rfl] at hw115_3);(try rw[Addr.add_zero'] at hw115_3);have hw115_2:=hx115_2;(try rw[show ((0:Int)).toNat=0 from rfl] at hw115_2);(try rw[show 0 * 4=0 from rfl] at hw115_2);(try rw[Addr.add_zero'] at hw115_2);have hw115_1:=hx115_1;(try rw[show ((0:Int)).toNat=0 from rfl] at hw115_1);(try rw[show 0 * 4=0 from rfl] at hw115_1);(try rw[Addr.add_zero'] at hw115_1);have hw115_0:=hx115_0;(try rw[show ((0:Int)).toNat=0 from rfl] at hw115_0);(try rw[show 0 * 4=0 from rfl] at hw115_0);(try rw[Addr.add_zero'] at hw115_0);obtain rfl:ad111=ad115:=(by injection e115);have qi115:(0 < l0.length)=True:=eq_true (by omega);(try rw[show ((0:Int)).toNat=0 from rfl] at hx115_0);(try rw[show 0 * 4=0 from rfl] at hx115_0);(try rw[Addr.add_zero'] at hx115_0);(try rw[show ((0:Int)).toNat=0 from rfl] at hx115_1);(try rw[show 0 * 4=0 from rfl] at hx115_1);(try rw[Addr.add_zero'] at hx115_1);(try rw[show ((0:Int)).toNat=0 from rfl] at hx115_2);(try rw[show 0 * 4=0 from rfl] at hx115_2);(try rw[Addr.add_zero'] at hx115_2);(try rw[show ((0:Int)).toNat=0 from rfl] at hx115_3);(try rw[show 0 * 4=0 from rfl] at hx115_3);(try rw[Addr.add_zero'] at hx115_3);replace hx115_0:=(HB.out.cell (World.block_lt_of_cell? w _ hx115_0)).trans hx115_0;replace hx115_1:=(HB.out.cell (World.block_lt_of_cell? w _ hx115_1)).trans hx115_1;replace hx115_2:=(HB.out.cell (World.block_lt_of_cell? w _ hx115_2)).trans hx115_2;replace hx115_3:=(HB.out.cell (World.block_lt_of_cell? w _ hx115_3)).trans hx115_3
            have HR115_0:=Aside0.mk hi115_0;have HC115_0:=Aside0.mk hl115_0;clear hi115_0 hl115_0;have HR115_3:=Aside0.mk hi115_3;have HC115_3:=Aside0.mk hl115_3;clear hi115_3 hl115_3;replace p115:=eq_true p115;replace q115:=eq_true q115;(refine start_ (n:=33) (S:=fun w'=>w'.cell? ⟨gb112,0,none⟩=some (.slice A111_0 ((rd_T48 l0 x11_1).f0).length c111_0)∧w'.cell? ⟨gb112,1,none⟩=some (.int .i64 ((rd_T48 l0 x11_1).f1.f0))∧w'.cell? ⟨gb112,2,none⟩=some (.int .i64 ((rd_T48 l0 x11_1).f1.f1))∧w'.cell? ⟨gb112,3,none⟩=some (.slice (some ad114) ((rd_T48 l0 x11_1).f2).length c111_3)∧w'.cell? ad114=some (.string ((rd_T57 ((rd_T48 l0 x11_1).f2) 0).f0))∧w'.cell? ⟨ad114.block,ad114.off+1,none⟩=some (.string ((rd_T57 ((rd_T48 l0 x11_1).f2) 0).f1))∧w'.cell? ad111=some (.slice A115_0 ((rd_T48 l0 0).f0).length c115_0)∧w'.cell? ⟨ad111.block,ad111.off+1,none⟩=some (.int .i64 ((rd_T48 l0 0).f1.f0))∧w'.cell? ⟨ad111.block,ad111.off+2,none⟩=some (.int .i64 ((rd_T48 l0 0).f1.f1))∧w'.cell? ⟨ad111.block,ad111.off+3,none⟩=some (.slice A115_3 ((rd_T48 l0 0).f2).length c115_3)) (ds:=[]) (bm_ 33 0) (by kernel_rfl) rfl rfl ⟨(blk_cell BK112.out 0).trans rfl,(blk_cell BK112.out 1).trans rfl,(blk_cell BK112.out 2).trans rfl,(blk_cell BK112.out 3).trans rfl,((HB.out.cell (World.block_lt_of_cell? w _ hw114_0)).trans hw114_0),((HB.out.cell (World.block_lt_of_cell? w _ hw114_1)).trans hw114_1),((HB.out.cell (World.block_lt_of_cell? w _ hw115_0)).trans hw115_0),((HB.out.cell (World.block_lt_of_cell? w _ hw115_1)).trans hw115_1),((HB.out.cell (World.block_lt_of_cell? w _ hw115_2)).trans hw115_2),((HB.out.cell (World.block_lt_of_cell? w _ hw115_3)).trans hw115_3)⟩ (fun hHeld=>?_);refine with_tabW patch_May.tab4 patch_May.bits4 (fun HT_ HW_=>?_));(generalize w16.drew=w17 at BK112 HB HR115_0 HR115_3 hx114_0 hx114_1 hx115_0 hx115_1 hx115_2 hx115_3 hHeld ⊢);refine pq_ (i:=0) (N:=some 16) (hc:=any_of HT_.out (by kernel_rfl)) (bm_ 33 1) ?_;refine tq_ (i:=1) (N:=some 17) (hc:=take_ofW HT_.out HW_.out (by kernel_rfl)) (bm_ 33 3) hHeld ?_;refine pq_ (i:=2) (N:=some 18) (hc:=any_of HT_.out (by kernel_rfl)) (bm_ 33 7) ?_;refine pq_ (i:=3) (N:=some 19) (hc:=any_of HT_.out (by kernel_rfl)) (bm_ 33 15) ?_;refine pq_ (i:=4) (N:=some 20) (hc:=any_of HT_.out (by kernel_rfl)) (bm_ 33 31) ?_;refine pq_ (i:=5) (N:=some 21) (hc:=any_of HT_.out (by kernel_rfl)) (bm_ 33 63) ?_;refine take_ (i:=6) (N:=some 22) (v:=?_) (a':=?_) (bm_ 33 127) rfl rfl (take_ofW HT_.out HW_.out (by kernel_rfl)) (fun _ _ _ h=>h) (Or.inl ⟨by rfl,?_⟩) hHeld ?_ ?_;rotate_left;(· rintro w' ⟨s0,s1,s2,s3,s4,s5,s6,s7,s8,s9⟩;go_simp;(with_reducible rfl));rotate_left
            (· simp only[Act.put,List.setIfInBounds_toArray,List.set_cons_zero,List.set_cons_succ,i64_w,i32_w];rfl);refine one_ (i:=7) (N:=some 23) (bm_ 33 255) rfl rfl (one_of HT_.out (by kernel_rfl)) (by decide) (fun K hK=>?_);refine goes_ Tryd.func35 (by kernel_rfl) rfl #[.slice (some ad114) ((rd_T48 l0 x11_1).f2).length c111_3] (by rfl) rfl rfl am_ ?_;(with_reducible refine(hunk_May.calls k1 _ _ ((rd_T48 l0 x11_1).f2) true _ ?side1 ?side2 A11.out).mono ?_);(case side1=>repeat(first|exact(Kd.C_below HR111_3.out HB.out)|(with_reducible refine Kd.C_alloc ?_ _)|(with_reducible refine Kd.C_drewN ?_ _)|(with_reducible refine Kd.C_drew ?_)));(case side2=>exact HC111_3.out);rintro e w18 ⟨rfl,hb⟩;refine⟨_,rfl,?_⟩;replace BK112:=Aside0.mk (blk_below (g:=gb112) (o := .cells #[.slice A111_0 ((rd_T48 l0 x11_1).f0).length c111_0, .int .i64 ((rd_T48 l0 x11_1).f1.f0), .int .i64 ((rd_T48 l0 x11_1).f1.f1), .slice (some ad114) ((rd_T48 l0 x11_1).f2).length c111_3] 48 (0,0)) (pK_ BK112.out) hb);replace HB:=Aside0.mk (below_step (bs1_ GE112.out) hb);(try clear hb);(try clear hb2);(try clear hk);(try clear hi);refine hK.out _ _ ⟨(blk_cell BK112.out 0).trans rfl,(blk_cell BK112.out 1).trans rfl,(blk_cell BK112.out 2).trans rfl,(blk_cell BK112.out 3).trans rfl,((HB.out.cell (World.block_lt_of_cell? w _ hw114_0)).trans hw114_0),((HB.out.cell (World.block_lt_of_cell? w _ hw114_1)).trans hw114_1),((HB.out.cell (World.block_lt_of_cell? w _ hw115_0)).trans hw115_0),((HB.out.cell (World.block_lt_of_cell? w _ hw115_1)).trans hw115_1),((HB.out.cell (World.block_lt_of_cell? w _ hw115_2)).trans hw115_2),((HB.out.cell (World.block_lt_of_cell? w _ hw115_3)).trans hw115_3)⟩ (fun hHeld=>?_);clear hK K;refine nq_ (N:=some 23) ?_;refine pq_ (i:=8) (N:=some 24) (hc:=any_of HT_.out (by kernel_rfl)) (bm_ 33 511) ?_;refine pq_ (i:=9) (N:=some 25) (hc:=any_of HT_.out (by kernel_rfl)) (bm_ 33 1023) ?_;refine pq_ (i:=10) (N:=some 26) (hc:=any_of HT_.out (by kernel_rfl)) (bm_ 33 2047) ?_;refine pq_ (i:=11) (N:=some 27) (hc:=any_of HT_.out (by kernel_rfl)) (bm_ 33 4095) ?_;refine pq_ (i:=14) (N:=some 30) (hc:=any_of HT_.out (by kernel_rfl)) (bm_ 33 20479) ?_;refine tq_ (i:=12) (N:=some 28) (hc:=take_ofW HT_.out HW_.out (by kernel_rfl)) (bm_ 33 24575) hHeld ?_
            refine pq_ (i:=13) (N:=some 29) (hc:=any_of HT_.out (by kernel_rfl)) (bm_ 33 32767) ?_;refine tq_ (i:=15) (N:=some 31) (hc:=take_ofW HT_.out HW_.out (by kernel_rfl)) (bm_ 33 65535) hHeld ?_;refine pq_ (i:=16) (N:=some 32) (hc:=any_of HT_.out (by kernel_rfl)) (bm_ 33 131071) ?_;refine pq_ (i:=17) (N:=some 33) (hc:=any_of HT_.out (by kernel_rfl)) (bm_ 33 262143) ?_;refine tq_ (i:=18) (N:=some 34) (hc:=take_ofW HT_.out HW_.out (by kernel_rfl)) (bm_ 33 524287) hHeld ?_;refine pq_ (i:=19) (N:=some 35) (hc:=any_of HT_.out (by kernel_rfl)) (bm_ 33 1048575) ?_;refine pq_ (i:=20) (N:=some 36) (hc:=any_of HT_.out (by kernel_rfl)) (bm_ 33 2097151) ?_;refine pq_ (i:=21) (N:=some 37) (hc:=any_of HT_.out (by kernel_rfl)) (bm_ 33 4194303) ?_;refine pq_ (i:=22) (N:=some 38) (hc:=any_of HT_.out (by kernel_rfl)) (bm_ 33 8388607) ?_;refine pq_ (i:=23) (N:=some 39) (hc:=any_of HT_.out (by kernel_rfl)) (bm_ 33 16777215) ?_;refine pq_ (i:=26) (N:=some 42) (hc:=any_of HT_.out (by kernel_rfl)) (bm_ 33 83886079) ?_
            refine pq_ (i:=27) (N:=some 43) (hc:=any_of HT_.out (by kernel_rfl)) (bm_ 33 218103807) ?_;refine pq_ (i:=28) (N:=some 44) (hc:=any_of HT_.out (by kernel_rfl)) (bm_ 33 486539263) ?_;refine tq_ (i:=24) (N:=some 40) (hc:=take_ofW HT_.out HW_.out (by kernel_rfl)) (bm_ 33 503316479) hHeld ?_;refine pq_ (i:=25) (N:=some 41) (hc:=any_of HT_.out (by kernel_rfl)) (bm_ 33 536870911) ?_;refine tq_ (i:=29) (N:=some 45) (hc:=take_ofW HT_.out HW_.out (by kernel_rfl)) (bm_ 33 1073741823) hHeld ?_;refine pq_ (i:=30) (N:=some 46) (hc:=any_of HT_.out (by kernel_rfl)) (bm_ 33 2147483647) ?_;refine pq_ (i:=31) (N:=some 47) (hc:=any_of HT_.out (by kernel_rfl)) (bm_ 33 4294967295) ?_;refine pq_ (i:=32) (N:=some 48) (hc:=any_of HT_.out (by kernel_rfl)) (bm_ 33 8589934591) ?_;refine done_ (done_of HT_.out (by kernel_rfl)) ?_;(try go_wp2)
            go_meet
            (case rel=>exact⟨_,(((((rd_T48 l0 x11_1).f0).length:Int) != (((rd_T48 l0 0).f0).length:Int))),rs_,H',⟨by have:=HK1.out;first|omega|exact Nat.le_refl _⟩,⟨pK_ BK112.out⟩,⟨bs1_ GE112.out⟩⟩)
           (· exact nx_ c15 H)
          ·
           (rw[if_neg c14] at H);have c14b0:((((rd_T48 l0 x11_1).f0).length:Int) == (((rd_T57 ((rd_T48 l0 x11_1).f2) 0).f0).size:Int))=false:=beq_eq_false_iff_ne.mpr c14;have c14b1:((((rd_T48 l0 x11_1).f0).length:Int) != (((rd_T57 ((rd_T48 l0 x11_1).f2) 0).f0).size:Int))=true:=bne_iff_ne.mpr c14;(have c14b2:(((rd_T48 l0 x11_1).f0).length == ((rd_T57 ((rd_T48 l0 x11_1).f2) 0).f0).size)=false:=by first|simpa using c14|(simp at c14 ⊢;omega));have H':=Aside0.mk H;clear H;(try go_wp2);have n0_:Aside0 (((((w6.setCell ⟨gb112,0,none⟩ (.slice A111_0 ((rd_T48 l0 x11_1).f0).length c111_0)).setCell ⟨gb112,1,none⟩ (.int .i64 ((rd_T48 l0 x11_1).f1.f0))).setCell ⟨gb112,2,none⟩ (.int .i64 ((rd_T48 l0 x11_1).f1.f1))).setCell ⟨gb112,3,none⟩ (.slice A111_3 ((rd_T48 l0 x11_1).f2).length c111_3)).heap[gb112]? = some (.cells #[.slice A111_0 ((rd_T48 l0 x11_1).f0).length c111_0, .int .i64 ((rd_T48 l0 x11_1).f1.f0), .int .i64 ((rd_T48 l0 x11_1).f1.f1), .slice A111_3 ((rd_T48 l0 x11_1).f2).length c111_3] 48 (0,0))):=⟨by(with_reducible repeat(first|refine blk_drewN ?_ _|refine blk_drew ?_|refine blk_alloc ?_ _));refine blk_put (cs:=#[.slice A111_0 ((rd_T48 l0 x11_1).f0).length c111_0, .int .i64 ((rd_T48 l0 x11_1).f1.f0), .int .i64 ((rd_T48 l0 x11_1).f1.f1), .slice none 0 0]) ?_ 3 _ rfl;(with_reducible repeat(first|refine blk_drewN ?_ _|refine blk_drew ?_|refine blk_alloc ?_ _));refine blk_put (cs:=#[.slice A111_0 ((rd_T48 l0 x11_1).f0).length c111_0, .int .i64 ((rd_T48 l0 x11_1).f1.f0), .int .i64 0, .slice none 0 0]) ?_ 2 _ rfl;(with_reducible repeat(first|refine blk_drewN ?_ _|refine blk_drew ?_|refine blk_alloc ?_ _));refine blk_put (cs:=#[.slice A111_0 ((rd_T48 l0 x11_1).f0).length c111_0, .int .i64 0, .int .i64 0, .slice none 0 0]) ?_ 1 _ rfl;(with_reducible repeat(first|refine blk_drewN ?_ _|refine blk_drew ?_|refine blk_alloc ?_ _));refine blk_put (cs:=#[.slice none 0 0, .int .i64 0, .int .i64 0, .slice none 0 0]) ?_ 0 _ rfl;(with_reducible repeat(first|refine blk_drewN ?_ _|refine blk_drew ?_|refine blk_alloc ?_ _));exact BK112.out⟩;have n1_:Aside0 (Below w.heap.size w ((((w6.setCell ⟨gb112,0,none⟩ (.slice A111_0 ((rd_T48 l0 x11_1).f0).length c111_0)).setCell ⟨gb112,1,none⟩ (.int .i64 ((rd_T48 l0 x11_1).f1.f0))).setCell ⟨gb112,2,none⟩ (.int .i64 ((rd_T48 l0 x11_1).f1.f1))).setCell ⟨gb112,3,none⟩ (.slice A111_3 ((rd_T48 l0 x11_1).f2).length c111_3))):=⟨bs1_ GE112.out⟩;(try clear BK112);(try clear HB);(generalize ((((w6.setCell ⟨gb112,0,none⟩ (.slice A111_0 ((rd_T48 l0 x11_1).f0).length c111_0)).setCell ⟨gb112,1,none⟩ (.int .i64 ((rd_T48 l0 x11_1).f1.f0))).setCell ⟨gb112,2,none⟩ (.int .i64 ((rd_T48 l0 x11_1).f1.f1))).setCell ⟨gb112,3,none⟩ (.slice A111_3 ((rd_T48 l0 x11_1).f2).length c111_3))=w19 at n0_ n1_ ⊢);have BK112:=n0_;have HB:=n1_;clear n0_ n1_;replace BK112:=Aside0.mk (blk_drew BK112.out);replace HB:=Aside0.mk (below_drew1 HB.out);have p114:0≤(0:Int):=(by omega);have q114:0 < (((rd_T48 l0 x11_1).f2).length:Int):=dt_;obtain⟨ad114,e114,hx114_0,hx114_1⟩:=at_T57 HR111_3.out 0 p114 q114;have hw114_1:=hx114_1;(try rw[show ((0:Int)).toNat=0 from rfl] at hw114_1);(try rw[show 0 * 2=0 from rfl] at hw114_1);(try rw[Addr.add_zero'] at hw114_1);have hw114_0:=hx114_0;(try rw[show ((0:Int)).toNat=0 from rfl] at hw114_0);(try rw[show 0 * 2=0 from rfl] at hw114_0);(try rw[Addr.add_zero'] at hw114_0);cases e114;have qi114:(0 < ((rd_T48 l0 x11_1).f2).length)=True:=eq_true (by omega);(try rw[show ((0:Int)).toNat=0 from rfl] at hx114_0);(try rw[show 0 * 2=0 from rfl] at hx114_0);(try rw[Addr.add_zero'] at hx114_0);(try rw[show ((0:Int)).toNat=0 from rfl] at hx114_1);(try rw[show 0 * 2=0 from rfl] at hx114_1);(try rw[Addr.add_zero'] at hx114_1);replace hx114_0:=(HB.out.cell (World.block_lt_of_cell? w _ hx114_0)).trans hx114_0;replace hx114_1:=(HB.out.cell (World.block_lt_of_cell? w _ hx114_1)).trans hx114_1;replace p114:=eq_true p114;replace q114:=eq_true q114;(refine start_ (n:=33) (S:=fun w'=>w'.cell? ⟨gb112,0,none⟩=some (.slice A111_0 ((rd_T48 l0 x11_1).f0).length c111_0)∧w'.cell? ⟨gb112,1,none⟩=some (.int .i64 ((rd_T48 l0 x11_1).f1.f0))∧w'.cell? ⟨gb112,2,none⟩=some (.int .i64 ((rd_T48 l0 x11_1).f1.f1))∧w'.cell? ⟨gb112,3,none⟩=some (.slice (some ad114) ((rd_T48 l0 x11_1).f2).length c111_3)∧w'.cell? ad114=some (.string ((rd_T57 ((rd_T48 l0 x11_1).f2) 0).f0))∧w'.cell? ⟨ad114.block,ad114.off+1,none⟩=some (.string ((rd_T57 ((rd_T48 l0 x11_1).f2) 0).f1))) (ds:=[]) (bm_ 33 0) (by kernel_rfl) rfl rfl ⟨(blk_cell BK112.out 0).trans rfl,(blk_cell BK112.out 1).trans rfl,(blk_cell BK112.out 2).trans rfl,(blk_cell BK112.out 3).trans rfl,((HB.out.cell (World.block_lt_of_cell? w _ hw114_0)).trans hw114_0),((HB.out.cell (World.block_lt_of_cell? w _ hw114_1)).trans hw114_1)⟩ (fun hHeld=>?_);refine with_tabW patch_May.tab4 patch_May.bits4 (fun HT_ HW_=>?_));(generalize w19.drew=w20 at BK112 HB hx114_0 hx114_1 hHeld ⊢);refine pure_ (i:=0) (N:=some 16) (v:=?_) (a':=?_) (bm_ 33 1) rfl rfl (any_of HT_.out (by kernel_rfl)) (fun _ _ _ h=>h) (Or.inl ⟨by rfl,?_⟩) ?_ ?_;rotate_left;(· intro w';go_simp;(with_reducible rfl))
           rotate_left;(· simp only[Act.put,List.setIfInBounds_toArray,List.set_cons_zero,List.set_cons_succ,i64_w,i32_w];rfl);refine tq_ (i:=1) (N:=some 17) (hc:=take_ofW HT_.out HW_.out (by kernel_rfl)) (bm_ 33 3) hHeld ?_;refine pq_ (i:=2) (N:=some 18) (hc:=any_of HT_.out (by kernel_rfl)) (bm_ 33 7) ?_;refine pq_ (i:=3) (N:=some 19) (hc:=any_of HT_.out (by kernel_rfl)) (bm_ 33 15) ?_;refine pq_ (i:=4) (N:=some 20) (hc:=any_of HT_.out (by kernel_rfl)) (bm_ 33 31) ?_;refine pq_ (i:=5) (N:=some 21) (hc:=any_of HT_.out (by kernel_rfl)) (bm_ 33 63) ?_;refine tq_ (i:=6) (N:=some 22) (hc:=take_ofW HT_.out HW_.out (by kernel_rfl)) (bm_ 33 127) hHeld ?_;refine one_ (i:=7) (N:=some 23) (bm_ 33 255) rfl rfl (one_of HT_.out (by kernel_rfl)) (by decide) (fun K hK=>?_);refine goes_ Tryd.func35 (by kernel_rfl) rfl #[.slice (some ad114) ((rd_T48 l0 x11_1).f2).length c111_3] (by rfl) rfl rfl am_ ?_;(with_reducible refine(hunk_May.calls k1 _ _ ((rd_T48 l0 x11_1).f2) true _ ?side1 ?side2 A11.out).mono ?_);(case side1=>repeat(first|exact(Kd.C_below HR111_3.out HB.out)|(with_reducible refine Kd.C_alloc ?_ _)|(with_reducible refine Kd.C_drewN ?_ _)|(with_reducible refine Kd.C_drew ?_)));(case side2=>exact HC111_3.out);rintro e w21 ⟨rfl,hb⟩;refine⟨_,rfl,?_⟩;replace BK112:=Aside0.mk (blk_below (g:=gb112) (o := .cells #[.slice A111_0 ((rd_T48 l0 x11_1).f0).length c111_0, .int .i64 ((rd_T48 l0 x11_1).f1.f0), .int .i64 ((rd_T48 l0 x11_1).f1.f1), .slice (some ad114) ((rd_T48 l0 x11_1).f2).length c111_3] 48 (0,0)) (pK_ BK112.out) hb);replace HB:=Aside0.mk (below_step (bs1_ GE112.out) hb);(try clear hb);(try clear hb2);(try clear hk);(try clear hi);refine hK.out _ _ ⟨(blk_cell BK112.out 0).trans rfl,(blk_cell BK112.out 1).trans rfl,(blk_cell BK112.out 2).trans rfl,(blk_cell BK112.out 3).trans rfl,((HB.out.cell (World.block_lt_of_cell? w _ hw114_0)).trans hw114_0),((HB.out.cell (World.block_lt_of_cell? w _ hw114_1)).trans hw114_1)⟩ (fun hHeld=>?_);clear hK K;refine nq_ (N:=some 23) ?_
           refine pq_ (i:=8) (N:=some 24) (hc:=any_of HT_.out (by kernel_rfl)) (bm_ 33 511) ?_;refine pq_ (i:=9) (N:=some 25) (hc:=any_of HT_.out (by kernel_rfl)) (bm_ 33 1023) ?_;refine pq_ (i:=10) (N:=some 26) (hc:=any_of HT_.out (by kernel_rfl)) (bm_ 33 2047) ?_;refine pq_ (i:=11) (N:=some 27) (hc:=any_of HT_.out (by kernel_rfl)) (bm_ 33 4095) ?_;refine pq_ (i:=14) (N:=some 30) (hc:=any_of HT_.out (by kernel_rfl)) (bm_ 33 20479) ?_;refine tq_ (i:=12) (N:=some 28) (hc:=take_ofW HT_.out HW_.out (by kernel_rfl)) (bm_ 33 24575) hHeld ?_;refine pq_ (i:=13) (N:=some 29) (hc:=any_of HT_.out (by kernel_rfl)) (bm_ 33 32767) ?_;refine tq_ (i:=15) (N:=some 31) (hc:=take_ofW HT_.out HW_.out (by kernel_rfl)) (bm_ 33 65535) hHeld ?_;refine pq_ (i:=16) (N:=some 32) (hc:=any_of HT_.out (by kernel_rfl)) (bm_ 33 131071) ?_;refine pq_ (i:=17) (N:=some 33) (hc:=any_of HT_.out (by kernel_rfl)) (bm_ 33 262143) ?_;refine take_ (i:=18) (N:=some 34) (v:=?_) (a':=?_) (bm_ 33 524287) rfl rfl (take_ofW HT_.out HW_.out (by kernel_rfl)) (fun _ _ _ h=>h) (Or.inl ⟨by rfl,?_⟩) hHeld ?_ ?_;rotate_left;(· rintro w' ⟨s0,s1,s2,s3,s4,s5⟩;go_simp;(with_reducible rfl));rotate_left
           (· simp only[Act.put,List.setIfInBounds_toArray,List.set_cons_zero,List.set_cons_succ,i64_w,i32_w];rfl);refine pq_ (i:=19) (N:=some 35) (hc:=any_of HT_.out (by kernel_rfl)) (bm_ 33 1048575) ?_;refine pq_ (i:=20) (N:=some 36) (hc:=any_of HT_.out (by kernel_rfl)) (bm_ 33 2097151) ?_;refine pq_ (i:=21) (N:=some 37) (hc:=any_of HT_.out (by kernel_rfl)) (bm_ 33 4194303) ?_;refine pq_ (i:=22) (N:=some 38) (hc:=any_of HT_.out (by kernel_rfl)) (bm_ 33 8388607) ?_;refine pu_ (i:=23) (N:=some 39) (hc:=any_of HT_.out (by kernel_rfl)) (bm_ 33 16777215) ?_;refine pu_ (i:=24) (N:=some 40) (hc:=any_of HT_.out (by kernel_rfl)) (bm_ 33 33554431) ?_;refine pu_ (i:=25) (N:=some 41) (hc:=any_of HT_.out (by kernel_rfl)) (bm_ 33 67108863) ?_;refine pu_ (i:=26) (N:=some 42) (hc:=any_of HT_.out (by kernel_rfl)) (bm_ 33 134217727) ?_;refine pu_ (i:=27) (N:=some 43) (hc:=any_of HT_.out (by kernel_rfl)) (bm_ 33 268435455) ?_;refine pu_ (i:=28) (N:=some 44) (hc:=any_of HT_.out (by kernel_rfl)) (bm_ 33 536870911) ?_;refine pu_ (i:=29) (N:=some 45) (hc:=any_of HT_.out (by kernel_rfl)) (bm_ 33 1073741823) ?_;refine pure_ (i:=30) (N:=some 46) (v:=undef) (a':=?_) (bm_ 33 2147483647) rfl rfl (any_of HT_.out (by kernel_rfl)) (fun _ _ _ h=>h) (Or.inr ⟨by rfl,rfl⟩) ?_ ?_;rotate_left
           (· simp only[Act.put,List.setIfInBounds_toArray,List.set_cons_zero,List.set_cons_succ,i64_w,i32_w];rfl);refine pu_ (i:=31) (N:=some 47) (hc:=any_of HT_.out (by kernel_rfl)) (bm_ 33 4294967295) ?_;refine pq_ (i:=32) (N:=some 48) (hc:=any_of HT_.out (by kernel_rfl)) (bm_ 33 8589934591) ?_;refine done_ (done_of HT_.out (by kernel_rfl)) ?_;(try go_wp2)
           go_meet
           (case rel=>exact⟨_,(true),rs_,H',⟨by have:=HK1.out;first|omega|exact Nat.le_refl _⟩,⟨pK_ BK112.out⟩,⟨bs1_ GE112.out⟩⟩)
         (· exact nx_ c13 H)
        ·
         replace c12:=Bool.eq_false_iff.mpr c12;subst c12;have H1:=H;(rw[if_neg (show ¬ (false=true) by decide)] at H1);clear H;have H:=H1;clear H1;have H':=Aside0.mk H;clear H;(try go_wp2);have n0_:Aside0 (((((w6.setCell ⟨gb112,0,none⟩ (.slice A111_0 ((rd_T48 l0 x11_1).f0).length c111_0)).setCell ⟨gb112,1,none⟩ (.int .i64 ((rd_T48 l0 x11_1).f1.f0))).setCell ⟨gb112,2,none⟩ (.int .i64 ((rd_T48 l0 x11_1).f1.f1))).setCell ⟨gb112,3,none⟩ (.slice A111_3 ((rd_T48 l0 x11_1).f2).length c111_3)).heap[gb112]? = some (.cells #[.slice A111_0 ((rd_T48 l0 x11_1).f0).length c111_0, .int .i64 ((rd_T48 l0 x11_1).f1.f0), .int .i64 ((rd_T48 l0 x11_1).f1.f1), .slice A111_3 ((rd_T48 l0 x11_1).f2).length c111_3] 48 (0,0))):=⟨by(with_reducible repeat(first|refine blk_drewN ?_ _|refine blk_drew ?_|refine blk_alloc ?_ _));refine blk_put (cs:=#[.slice A111_0 ((rd_T48 l0 x11_1).f0).length c111_0, .int .i64 ((rd_T48 l0 x11_1).f1.f0), .int .i64 ((rd_T48 l0 x11_1).f1.f1), .slice none 0 0]) ?_ 3 _ rfl;(with_reducible repeat(first|refine blk_drewN ?_ _|refine blk_drew ?_|refine blk_alloc ?_ _));refine blk_put (cs:=#[.slice A111_0 ((rd_T48 l0 x11_1).f0).length c111_0, .int .i64 ((rd_T48 l0 x11_1).f1.f0), .int .i64 0, .slice none 0 0]) ?_ 2 _ rfl;(with_reducible repeat(first|refine blk_drewN ?_ _|refine blk_drew ?_|refine blk_alloc ?_ _));refine blk_put (cs:=#[.slice A111_0 ((rd_T48 l0 x11_1).f0).length c111_0, .int .i64 0, .int .i64 0, .slice none 0 0]) ?_ 1 _ rfl;(with_reducible repeat(first|refine blk_drewN ?_ _|refine blk_drew ?_|refine blk_alloc ?_ _));refine blk_put (cs:=#[.slice none 0 0, .int .i64 0, .int .i64 0, .slice none 0 0]) ?_ 0 _ rfl;(with_reducible repeat(first|refine blk_drewN ?_ _|refine blk_drew ?_|refine blk_alloc ?_ _));exact BK112.out⟩;have n1_:Aside0 (Below w.heap.size w ((((w6.setCell ⟨gb112,0,none⟩ (.slice A111_0 ((rd_T48 l0 x11_1).f0).length c111_0)).setCell ⟨gb112,1,none⟩ (.int .i64 ((rd_T48 l0 x11_1).f1.f0))).setCell ⟨gb112,2,none⟩ (.int .i64 ((rd_T48 l0 x11_1).f1.f1))).setCell ⟨gb112,3,none⟩ (.slice A111_3 ((rd_T48 l0 x11_1).f2).length c111_3))):=⟨bs1_ GE112.out⟩;(try clear BK112);(try clear HB);(generalize ((((w6.setCell ⟨gb112,0,none⟩ (.slice A111_0 ((rd_T48 l0 x11_1).f0).length c111_0)).setCell ⟨gb112,1,none⟩ (.int .i64 ((rd_T48 l0 x11_1).f1.f0))).setCell ⟨gb112,2,none⟩ (.int .i64 ((rd_T48 l0 x11_1).f1.f1))).setCell ⟨gb112,3,none⟩ (.slice A111_3 ((rd_T48 l0 x11_1).f2).length c111_3))=w22 at n0_ n1_ ⊢);have BK112:=n0_;have HB:=n1_;clear n0_ n1_;replace BK112:=Aside0.mk (blk_drew BK112.out);replace HB:=Aside0.mk (below_drew1 HB.out);(refine start_ (n:=33) (S:=fun w'=>w'.cell? ⟨gb112,0,none⟩=some (.slice A111_0 ((rd_T48 l0 x11_1).f0).length c111_0)∧w'.cell? ⟨gb112,1,none⟩=some (.int .i64 ((rd_T48 l0 x11_1).f1.f0))∧w'.cell? ⟨gb112,2,none⟩=some (.int .i64 ((rd_T48 l0 x11_1).f1.f1))∧w'.cell? ⟨gb112,3,none⟩=some (.slice A111_3 ((rd_T48 l0 x11_1).f2).length c111_3)) (ds:=[]) (bm_ 33 0) (by kernel_rfl) rfl rfl ⟨(blk_cell BK112.out 0).trans rfl,(blk_cell BK112.out 1).trans rfl,(blk_cell BK112.out 2).trans rfl,(blk_cell BK112.out 3).trans rfl⟩ (fun hHeld=>?_);refine with_tabW patch_May.tab4 patch_May.bits4 (fun HT_ HW_=>?_));(generalize w22.drew=w23 at BK112 HB hHeld ⊢);refine pq_ (i:=0) (N:=some 16) (hc:=any_of HT_.out (by kernel_rfl)) (bm_ 33 1) ?_;refine tq_ (i:=1) (N:=some 17) (hc:=take_ofW HT_.out HW_.out (by kernel_rfl)) (bm_ 33 3) hHeld ?_;refine pq_ (i:=2) (N:=some 18) (hc:=any_of HT_.out (by kernel_rfl)) (bm_ 33 7) ?_;refine pq_ (i:=3) (N:=some 19) (hc:=any_of HT_.out (by kernel_rfl)) (bm_ 33 15) ?_
         refine pq_ (i:=4) (N:=some 20) (hc:=any_of HT_.out (by kernel_rfl)) (bm_ 33 31) ?_;refine pq_ (i:=5) (N:=some 21) (hc:=any_of HT_.out (by kernel_rfl)) (bm_ 33 63) ?_;refine tq_ (i:=6) (N:=some 22) (hc:=take_ofW HT_.out HW_.out (by kernel_rfl)) (bm_ 33 127) hHeld ?_;refine one_ (i:=7) (N:=some 23) (bm_ 33 255) rfl rfl (one_of HT_.out (by kernel_rfl)) (by decide) (fun K hK=>?_);refine goes_ Tryd.func35 (by kernel_rfl) rfl #[.slice A111_3 ((rd_T48 l0 x11_1).f2).length c111_3] (by rfl) rfl rfl am_ ?_;(with_reducible refine(hunk_May.calls k1 _ _ ((rd_T48 l0 x11_1).f2) false _ ?side1 ?side2 A11.out).mono ?_);(case side1=>repeat(first|exact(Kd.C_below HR111_3.out HB.out)|(with_reducible refine Kd.C_alloc ?_ _)|(with_reducible refine Kd.C_drewN ?_ _)|(with_reducible refine Kd.C_drew ?_)));(case side2=>exact HC111_3.out);rintro e w24 ⟨rfl,hb⟩;refine⟨_,rfl,?_⟩;replace BK112:=Aside0.mk (blk_below (g:=gb112) (o := .cells #[.slice A111_0 ((rd_T48 l0 x11_1).f0).length c111_0, .int .i64 ((rd_T48 l0 x11_1).f1.f0), .int .i64 ((rd_T48 l0 x11_1).f1.f1), .slice A111_3 ((rd_T48 l0 x11_1).f2).length c111_3] 48 (0,0)) (pK_ BK112.out) hb);replace HB:=Aside0.mk (below_step (bs1_ GE112.out) hb);(try clear hb);(try clear hb2);(try clear hk);(try clear hi);refine hK.out _ _ ⟨(blk_cell BK112.out 0).trans rfl,(blk_cell BK112.out 1).trans rfl,(blk_cell BK112.out 2).trans rfl,(blk_cell BK112.out 3).trans rfl⟩ (fun hHeld=>?_);clear hK K;refine nq_ (N:=some 23) ?_;refine pq_ (i:=8) (N:=some 24) (hc:=any_of HT_.out (by kernel_rfl)) (bm_ 33 511) ?_;refine pq_ (i:=9) (N:=some 25) (hc:=any_of HT_.out (by kernel_rfl)) (bm_ 33 1023) ?_;refine pq_ (i:=10) (N:=some 26) (hc:=any_of HT_.out (by kernel_rfl)) (bm_ 33 2047) ?_;refine pu_ (i:=11) (N:=some 27) (hc:=any_of HT_.out (by kernel_rfl)) (bm_ 33 4095) ?_
         refine pu_ (i:=12) (N:=some 28) (hc:=any_of HT_.out (by kernel_rfl)) (bm_ 33 8191) ?_;refine pu_ (i:=13) (N:=some 29) (hc:=any_of HT_.out (by kernel_rfl)) (bm_ 33 16383) ?_;refine pu_ (i:=14) (N:=some 30) (hc:=any_of HT_.out (by kernel_rfl)) (bm_ 33 32767) ?_;refine pu_ (i:=15) (N:=some 31) (hc:=any_of HT_.out (by kernel_rfl)) (bm_ 33 65535) ?_;refine pu_ (i:=16) (N:=some 32) (hc:=any_of HT_.out (by kernel_rfl)) (bm_ 33 131071) ?_;refine pu_ (i:=17) (N:=some 33) (hc:=any_of HT_.out (by kernel_rfl)) (bm_ 33 262143) ?_;refine pu_ (i:=18) (N:=some 34) (hc:=any_of HT_.out (by kernel_rfl)) (bm_ 33 524287) ?_;refine pu_ (i:=19) (N:=some 35) (hc:=any_of HT_.out (by kernel_rfl)) (bm_ 33 1048575) ?_;refine pu_ (i:=20) (N:=some 36) (hc:=any_of HT_.out (by kernel_rfl)) (bm_ 33 2097151) ?_;refine pq_ (i:=21) (N:=some 37) (hc:=any_of HT_.out (by kernel_rfl)) (bm_ 33 4194303) ?_;refine pq_ (i:=22) (N:=some 38) (hc:=any_of HT_.out (by kernel_rfl)) (bm_ 33 8388607) ?_;refine pu_ (i:=23) (N:=some 39) (hc:=any_of HT_.out (by kernel_rfl)) (bm_ 33 16777215) ?_
         refine pu_ (i:=24) (N:=some 40) (hc:=any_of HT_.out (by kernel_rfl)) (bm_ 33 33554431) ?_;refine pu_ (i:=25) (N:=some 41) (hc:=any_of HT_.out (by kernel_rfl)) (bm_ 33 67108863) ?_;refine pu_ (i:=26) (N:=some 42) (hc:=any_of HT_.out (by kernel_rfl)) (bm_ 33 134217727) ?_;refine pu_ (i:=27) (N:=some 43) (hc:=any_of HT_.out (by kernel_rfl)) (bm_ 33 268435455) ?_;refine pu_ (i:=28) (N:=some 44) (hc:=any_of HT_.out (by kernel_rfl)) (bm_ 33 536870911) ?_;refine pu_ (i:=29) (N:=some 45) (hc:=any_of HT_.out (by kernel_rfl)) (bm_ 33 1073741823) ?_;refine pu_ (i:=30) (N:=some 46) (hc:=any_of HT_.out (by kernel_rfl)) (bm_ 33 2147483647) ?_;refine pu_ (i:=31) (N:=some 47) (hc:=any_of HT_.out (by kernel_rfl)) (bm_ 33 4294967295) ?_;refine pq_ (i:=32) (N:=some 48) (hc:=any_of HT_.out (by kernel_rfl)) (bm_ 33 8589934591) ?_;refine done_ (done_of HT_.out (by kernel_rfl)) ?_;(try go_wp2)
         go_meet
         (case rel=>exact⟨_,(true),rs_,H',⟨by have:=HK1.out;first|omega|exact Nat.le_refl _⟩,⟨pK_ BK112.out⟩,⟨bs1_ GE112.out⟩⟩)
      case rest =>
       clear HC5;(try clear c1);(try clear p1);(try clear q1);(try clear hx1);(try clear qi1);(try clear p2);(try clear c3);(try clear c11);(try clear p11);(try clear q11);(try clear hx11);(try clear qi11);(try clear c12);(try clear c13);(try clear c14);(try clear c14b0);(try clear c14b1);(try clear c14b2);(try clear c15);(try clear hx114_0);(try clear hx114_1);(try clear p114);(try clear q114);obtain⟨kq,x48_4,rfl,HA,HJ4,BK112,HB⟩:=hcut
       cases kq with
       | zero=>exact absurd HA.out (by simp[patch_May.j1])
       | succ kj4 =>
        have H:=HA.out;clear HA;(simp only[patch_May.j1] at H)
        by_cases c25:x48_4=true
        (· subst c25;have H1:=H;(rw[if_pos rfl] at H1);clear H;have H:=H1;clear H1;obtain rfl:=Option.some.inj H;go_wp2;go_ret;exact⟨by first|rfl|(simp[errW_none,errW_some] <;> rfl)|(simp[*,errW_none,errW_some] <;> rfl),by repeat(first|(with_reducible first|exact HB.out|apply below_alloc|apply pw_below_drewN|apply below_drew1|refine below_set ?_ GE112.out)|exact HB.out)⟩)
        ·
         replace c25:=Bool.eq_false_iff.mpr c25;subst c25;have H1:=H;(rw[if_neg (show ¬ (false=true) by decide)] at H1);clear H;have H:=H1;clear H1;obtain⟨ji26,hji26⟩ : ∃ j_:Int,(wrap64 ((((rd_T48 l0 x11_1).f0).length:Int)+1))=j_:=⟨_,rfl⟩;(first|rw[hji26] at H|simp only[hji26] at H);have hji26w:(IntKind.i64.wrap ((((rd_T48 l0 x11_1).f0).length:Int)+1))=ji26:=(i64_w _).trans hji26
         by_cases c27:0≤(ji26)
         ·
          (rw[if_pos c27] at H);have c27b0:=eq_true c27;have c27b1:decide (0≤(ji26))=true:=decide_eq_true c27;clear c27
          by_cases c28:(ji26:Int).toNat≤17592186044416
          ·
           (rw[if_pos c28] at H);have c28b0:=eq_true c28;have c28b1:decide ((ji26:Int).toNat≤17592186044416)=true:=decide_eq_true c28;clear c28;obtain⟨y116,hy116⟩ : ∃ y_:List (S45),y_=(List.replicate (ji26:Int).toNat z45):=⟨_,rfl⟩;((try rw[Option.bind_some] at H);rw[← hy116] at H);have Ny116:=Aside0.mk hy116;clear hy116;have HC29:=Aside0.mk H;clear H;have hcz30_0:wc.cell? ⟨gb112,0,none⟩=some (.slice A111_0 ((rd_T48 l0 x11_1).f0).length c111_0):=(blk_cell BK112.out 0).trans rfl;have hcz30_1:wc.cell? ⟨gb112,1,none⟩=some (.int .i64 ((rd_T48 l0 x11_1).f1.f0)):=(blk_cell BK112.out 1).trans rfl;have hcz30_2:wc.cell? ⟨gb112,2,none⟩=some (.int .i64 ((rd_T48 l0 x11_1).f1.f1)):=(blk_cell BK112.out 2).trans rfl;have hcz30_3:wc.cell? ⟨gb112,3,none⟩=some (.slice A111_3 ((rd_T48 l0 x11_1).f2).length c111_3):=(blk_cell BK112.out 3).trans rfl;have hfz30_0:=blk_frozen BK112.out 0;have hfz30_1:=blk_frozen BK112.out 1;have hfz30_2:=blk_frozen BK112.out 2;have hfz30_3:=blk_frozen BK112.out 3
           go_upto_if 55 with (first|((with_reducible refine gate_dst (N:=53) rfl ?_);(try(refine gate_guard (by rfl) ?_;dsimp only));refine Kd.R_make k45 _ 45 rfl (N:=53) rfl 46 _ _ rfl ji26 rfl rfl Tryd.underlying46 (.agg #[(.int .i64 0),(.int .i64 0)]) 16 info45 rfl (by decide) (by omega) z45 (ok:=fun _=>True) (okp:=fun _=>True) (k45_mkM _ _ _ z45 ) (fun _ hk=>hk) trivial (dt_) (Nat.le_trans (Nat.mul_le_mul_right _ (dt_:ji26.toNat≤17592186044416)) (by omega)) (Below.refl _ _) (Nat.le_refl _) ?_;intro v117 w31 ho32 hb hg_ hnew_;clear hg_ hnew_;(first|rw[← Ny116.out] at ho32|(simp only[Int.reduceToNat] at ho32;rw[← Ny116.out] at ho32));have HO118:=Aside0.mk (Kd.R_lower ho32 (below_size (bs1_ GE112.out)));replace BK112:=Aside0.mk (blk_below (g:=gb112) (o := .cells #[.slice A111_0 ((rd_T48 l0 x11_1).f0).length c111_0, .int .i64 ((rd_T48 l0 x11_1).f1.f0), .int .i64 ((rd_T48 l0 x11_1).f1.f1), .slice A111_3 ((rd_T48 l0 x11_1).f2).length c111_3] 48 (0,0)) (pK_ BK112.out) hb);replace HB:=Aside0.mk (below_step (bs1_ GE112.out) hb);clear hb ho32))
           (try simp only[Act.put,List.setIfInBounds_toArray,List.set_cons_zero,List.set_cons_succ])
           go_cut [5] (fun v5 wc => ∃ (kq:Nat) (x5_28:List (S45)),Aside0 (patch_May.j2 kq l0 x5_28 l0 (l0.length:Int) x11_1 ((rd_T48 l0 x11_1).f0) ((rd_T48 l0 x11_1).f1.f0) ((rd_T48 l0 x11_1).f1.f1) ((rd_T48 l0 x11_1).f2)=some r)∧Aside0 (kq≤kj4)∧Aside0 (Kd.R k45 45 wc w.heap.size (fun _=>True) v5 x5_28)∧Aside0 (wc.heap[gb112]? = some (.cells #[(.slice A111_0 ((rd_T48 l0 x11_1).f0).length c111_0), .int .i64 ((rd_T48 l0 x11_1).f1.f0), .int .i64 ((rd_T48 l0 x11_1).f1.f1),(.slice A111_3 ((rd_T48 l0 x11_1).f2).length c111_3)] 48 (0,0)))∧Aside0 (Below w.heap.size w wc))
           case first =>
            have H:=HC29.out;clear HC29
            by_cases c33:x11_1 > 0
            ·
             (rw[if_pos c33] at H);have c33b0:decide (0 < x11_1)=true:=decide_eq_true c33;clear c33;(first|rw[c33b0]|(simp only[i64_w,i32_w];rw[c33b0])|skip);obtain⟨ji34,hji34⟩ : ∃ j_:Int,(wrap64 (x11_1 - 1))=j_:=⟨_,rfl⟩;(first|rw[hji34] at H|simp only[hji34] at H);have hji34w:(IntKind.i64.wrap (x11_1 - 1))=ji34:=(i64_w _).trans hji34
             by_cases c35:0≤(ji34)
             ·
              (rw[if_pos c35] at H);have c35b0:decide (0≤(ji34))=true:=decide_eq_true c35;clear c35
              by_cases c36:(ji34) < (l0.length:Int)
              ·
               (rw[if_pos c36] at H);have c36b0:decide ((ji34) < (l0.length:Int))=true:=decide_eq_true c36;clear c36;replace H:=Option.bind_eq_some_iff.mp H;obtain⟨t120,A370,H⟩:=H;(try dsimp only at H);have A37:=Aside0.mk A370;clear A370;have H':=Aside0.mk H;clear H;have p119:0≤((ji34):Int):=dt_;have q119:(ji34) < (l0.length:Int):=dt_;obtain⟨ad119,A119_0,c119_0,A119_3,c119_3,e119,hx119_0,hx119_1,hx119_2,hx119_3,hl119_0,hi119_0,hl119_3,hi119_3⟩:=at_T48 HR0.out (ji34) p119 q119;obtain rfl:ad111=ad119:=(by injection e119);replace hx119_0:=(HB.out.cell (World.block_lt_of_cell? w _ hx119_0)).trans hx119_0;replace hx119_1:=(HB.out.cell (World.block_lt_of_cell? w _ hx119_1)).trans hx119_1;replace hx119_2:=(HB.out.cell (World.block_lt_of_cell? w _ hx119_2)).trans hx119_2;replace hx119_3:=(HB.out.cell (World.block_lt_of_cell? w _ hx119_3)).trans hx119_3;have HR119_0:=Aside0.mk hi119_0;have HC119_0:=Aside0.mk hl119_0;clear hi119_0 hl119_0;have HR119_3:=Aside0.mk hi119_3;have HC119_3:=Aside0.mk hl119_3;clear hi119_3 hl119_3;replace p119:=eq_true p119;replace q119:=eq_true q119;(go_wp2_with (first|((with_reducible refine gate_callee (f:=112) rfl ?_);refine goesL_ (some 61) rfl rfl Tryd.func112 (by kernel_rfl) rfl #[.agg #[.slice A119_0 ((rd_T48 l0 (ji34)).f0).length c119_0, .int .i64 ((rd_T48 l0 (ji34)).f1.f0), .int .i64 ((rd_T48 l0 (ji34)).f1.f1), .slice A119_3 ((rd_T48 l0 (ji34)).f2).length c119_3]] rfl (by(try simp only[List.map_toArray,List.map_cons,List.map_nil]);first|done|(simp only[hji34];rfl)|rfl|(simp only[List.length_drop,List.length_take];rfl)) ?_;(with_reducible refine(patch_spans.calls _ _ ((rd_T48 l0 (ji34)).f0) ((rd_T48 l0 (ji34)).f1.f0) ((rd_T48 l0 (ji34)).f1.f1) _ _ ((rd_T48 l0 (ji34)).f2) t120 _ ?side1 ?side2 ?side3 ?side4 A37.out).mono ?_);(case side1=>repeat(first|exact(Kd.C_below HR119_0.out HB.out)|(with_reducible refine Kd.C_alloc ?_ _)|(with_reducible refine Kd.C_drewN ?_ _)|(with_reducible refine Kd.C_drew ?_)));(case side2=>exact HC119_0.out);(case side3=>repeat(first|exact(Kd.C_below HR119_3.out HB.out)|(with_reducible refine Kd.C_alloc ?_ _)|(with_reducible refine Kd.C_drewN ?_ _)|(with_reducible refine Kd.C_drew ?_)));(case side4=>exact HC119_3.out);rintro e w38 ⟨v121,rfl,ho0,hb⟩;refine⟨_,rfl,?_⟩;have HO122:=Aside0.mk (Kd.R_lower (Kd.R_new' ho0 (Kd.R_lt (pR_ HO118.out))) (below_size (bs1_ GE112.out)));replace HO118:=Aside0.mk (Kd.R_elder' (pR_ HO118.out) (Kd.R_base ho0) hb);replace BK112:=Aside0.mk (blk_below (g:=gb112) (o := .cells #[.slice A111_0 ((rd_T48 l0 x11_1).f0).length c111_0, .int .i64 ((rd_T48 l0 x11_1).f1.f0), .int .i64 ((rd_T48 l0 x11_1).f1.f1), .slice A111_3 ((rd_T48 l0 x11_1).f2).length c111_3] 48 (0,0)) (pK_ BK112.out) hb);replace HB:=Aside0.mk (below_step (bs1_ GE112.out) hb);(try clear hb);(try clear hb2);(try clear hk);(try clear hi);(try clear ho0))))
               go_meet
               (case rel=>exact⟨_,(t120),H',⟨by have:=HK1.out;have:=HJ4.out;first|omega|exact Nat.le_refl _⟩,⟨Kd.R_mono (pRm_ HO122.out) (fun _ hk=>trivial)⟩,⟨pK_ BK112.out⟩,⟨bs1_ GE112.out⟩⟩)
              (· exact nx_ c36 H)
             (· exact nx_ c35 H)
            ·
             (rw[if_neg c33] at H);have c33b0:decide (0 < x11_1)=false:=decide_eq_false c33;clear c33;(first|rw[c33b0]|(simp only[i64_w,i32_w];rw[c33b0])|skip);have H':=Aside0.mk H;clear H;go_wp2
             go_meet
             (case rel=>exact⟨_,(y116),H',⟨by have:=HK1.out;have:=HJ4.out;first|omega|exact Nat.le_refl _⟩,⟨pR_ HO118.out⟩,⟨pK_ BK112.out⟩,⟨bs1_ GE112.out⟩⟩)
           case rest =>
            clear HC29;(try clear c1);(try clear p1);(try clear q1);(try clear hx1);(try clear qi1);(try clear c2);(try clear p2);(try clear c3);(try clear p6);(try clear c11);(try clear p11);(try clear q11);(try clear hx11);(try clear qi11);(try clear c12);(try clear c13);(try clear c14);(try clear c14b0);(try clear c14b1);(try clear c14b2);(try clear c15);(try clear c25);(try clear c27);(try clear c27b0);(try clear c27b1);(try clear c28);(try clear c28b0);(try clear c28b1);(try clear c33);(try clear c33b0);(try clear c35);(try clear c35b0);(try clear c36);(try clear c36b0);(try clear hcz30_0);(try clear hcz30_1);(try clear hcz30_2);(try clear hcz30_3);(try clear hfz30_0);(try clear hfz30_1);(try clear hfz30_2);(try clear hfz30_3);(try clear hx114_0);(try clear hx114_1);(try clear hx119_0);(try clear hx119_1);(try clear hx119_2);(try clear hx119_3);(try clear p1);(try clear p11);(try clear p114);(try clear p119);(try clear p2);(try clear q1);(try clear q11);(try clear q114);(try clear q119);obtain⟨kq,x5_28,HA,HJ28,HO_5,BK112,HB⟩:=hcut
            cases kq with
            | zero=>exact absurd HA.out (by simp[patch_May.j2])
            | succ kj28 =>
             have H:=HA.out;clear HA;(simp only[patch_May.j2] at H);replace H:=Option.bind_eq_some_iff.mp H;obtain⟨t123,A390,H⟩:=H;(try dsimp only at H);have A39:=Aside0.mk A390;clear A390;replace H:=Option.bind_eq_some_iff.mp H;obtain⟨t126,A400,H⟩:=H;(try dsimp only at H);have A40:=Aside0.mk A400;clear A400;have H':=Aside0.mk H;clear H;have hcz41_0:wc.cell? ⟨gb112,0,none⟩=some (.slice A111_0 ((rd_T48 l0 x11_1).f0).length c111_0):=(blk_cell BK112.out 0).trans rfl;have hcz41_1:wc.cell? ⟨gb112,1,none⟩=some (.int .i64 ((rd_T48 l0 x11_1).f1.f0)):=(blk_cell BK112.out 1).trans rfl;have hcz41_2:wc.cell? ⟨gb112,2,none⟩=some (.int .i64 ((rd_T48 l0 x11_1).f1.f1)):=(blk_cell BK112.out 2).trans rfl;have hcz41_3:wc.cell? ⟨gb112,3,none⟩=some (.slice A111_3 ((rd_T48 l0 x11_1).f2).length c111_3):=(blk_cell BK112.out 3).trans rfl;have hfz41_0:=blk_frozen BK112.out 0;have hfz41_1:=blk_frozen BK112.out 1;have hfz41_2:=blk_frozen BK112.out 2;have hfz41_3:=blk_frozen BK112.out 3
             (go_wp2_with (first|((with_reducible refine gate_callee (f:=113) rfl ?_);refine goesL_ (some 63) rfl rfl Tryd.func113 (by kernel_rfl) rfl #[.agg #[.slice A111_0 ((rd_T48 l0 x11_1).f0).length c111_0, .int .i64 ((rd_T48 l0 x11_1).f1.f0), .int .i64 ((rd_T48 l0 x11_1).f1.f1), .slice A111_3 ((rd_T48 l0 x11_1).f2).length c111_3]] rfl am_ ?_;(with_reducible refine(patch_counts.calls kj28 _ _ ((rd_T48 l0 x11_1).f0) ((rd_T48 l0 x11_1).f1.f0) ((rd_T48 l0 x11_1).f1.f1) _ _ ((rd_T48 l0 x11_1).f2) t123 _ ?side1 ?side2 ?side3 ?side4 A39.out).mono ?_);(case side1=>repeat(first|exact(Kd.C_below HR111_0.out HB.out)|(with_reducible refine Kd.C_alloc ?_ _)|(with_reducible refine Kd.C_drewN ?_ _)|(with_reducible refine Kd.C_drew ?_)));(case side2=>exact HC111_0.out);(case side3=>repeat(first|exact(Kd.C_below HR111_3.out HB.out)|(with_reducible refine Kd.C_alloc ?_ _)|(with_reducible refine Kd.C_drewN ?_ _)|(with_reducible refine Kd.C_drew ?_)));(case side4=>exact HC111_3.out);rintro e w42 ⟨v124,rfl,ho0,hb⟩;refine⟨_,rfl,?_⟩;replace HO_5:=Aside0.mk (Kd.R_below (pR_ HO_5.out) hb);have HO125:=Aside0.mk (Kd.R_lower ho0 (below_size (bs1_ GE112.out)));replace BK112:=Aside0.mk (blk_below (g:=gb112) (o := .cells #[.slice A111_0 ((rd_T48 l0 x11_1).f0).length c111_0, .int .i64 ((rd_T48 l0 x11_1).f1.f0), .int .i64 ((rd_T48 l0 x11_1).f1.f1), .slice A111_3 ((rd_T48 l0 x11_1).f2).length c111_3] 48 (0,0)) (pK_ BK112.out) hb);replace HB:=Aside0.mk (below_step (bs1_ GE112.out) hb);(try clear hb);(try clear hb2);(try clear hk);(try clear hi);(try clear ho0);have hcz43_0:w42.cell? ⟨gb112,0,none⟩=some (.slice A111_0 ((rd_T48 l0 x11_1).f0).length c111_0):=(blk_cell BK112.out 0).trans rfl;have hcz43_1:w42.cell? ⟨gb112,1,none⟩=some (.int .i64 ((rd_T48 l0 x11_1).f1.f0)):=(blk_cell BK112.out 1).trans rfl;have hcz43_2:w42.cell? ⟨gb112,2,none⟩=some (.int .i64 ((rd_T48 l0 x11_1).f1.f1)):=(blk_cell BK112.out 2).trans rfl;have hcz43_3:w42.cell? ⟨gb112,3,none⟩=some (.slice A111_3 ((rd_T48 l0 x11_1).f2).length c111_3):=(blk_cell BK112.out 3).trans rfl;have hfz43_0:=blk_frozen BK112.out 0;have hfz43_1:=blk_frozen BK112.out 1;have hfz43_2:=blk_frozen BK112.out 2;have hfz43_3:=blk_frozen BK112.out 3)|((with_reducible refine gate_callee (f:=112) rfl ?_);refine goesL_ (some 65) rfl rfl Tryd.func112 (by kernel_rfl) rfl #[.agg #[.slice A111_0 ((rd_T48 l0 x11_1).f0).length c111_0, .int .i64 ((rd_T48 l0 x11_1).f1.f0), .int .i64 ((rd_T48 l0 x11_1).f1.f1), .slice A111_3 ((rd_T48 l0 x11_1).f2).length c111_3]] rfl am_ ?_;(with_reducible refine(patch_spans.calls _ _ ((rd_T48 l0 x11_1).f0) ((rd_T48 l0 x11_1).f1.f0) ((rd_T48 l0 x11_1).f1.f1) _ _ ((rd_T48 l0 x11_1).f2) t126 _ ?side1 ?side2 ?side3 ?side4 A40.out).mono ?_);(case side1=>repeat(first|exact(Kd.C_below HR111_0.out HB.out)|(with_reducible refine Kd.C_alloc ?_ _)|(with_reducible refine Kd.C_drewN ?_ _)|(with_reducible refine Kd.C_drew ?_)));(case side2=>exact HC111_0.out);(case side3=>repeat(first|exact(Kd.C_below HR111_3.out HB.out)|(with_reducible refine Kd.C_alloc ?_ _)|(with_reducible refine Kd.C_drewN ?_ _)|(with_reducible refine Kd.C_drew ?_)));(case side4=>exact HC111_3.out);rintro e w44 ⟨v127,rfl,ho0,hb⟩;refine⟨_,rfl,?_⟩;replace HO125:=Aside0.mk (Kd.R_below (pR_ HO125.out) hb);have HO128:=Aside0.mk (Kd.R_lower (Kd.R_new' ho0 (Kd.R_lt (pR_ HO_5.out))) (below_size (bs1_ GE112.out)));replace HO_5:=Aside0.mk (Kd.R_elder' (pR_ HO_5.out) (Kd.R_base ho0) hb);replace BK112:=Aside0.mk (blk_below (g:=gb112) (o := .cells #[.slice A111_0 ((rd_T48 l0 x11_1).f0).length c111_0, .int .i64 ((rd_T48 l0 x11_1).f1.f0), .int .i64 ((rd_T48 l0 x11_1).f1.f1), .slice A111_3 ((rd_T48 l0 x11_1).f2).length c111_3] 48 (0,0)) (pK_ BK112.out) hb);replace HB:=Aside0.mk (below_step (bs1_ GE112.out) hb);(try clear hb);(try clear hb2);(try clear hk);(try clear hi);(try clear ho0);obtain⟨Ao45,co45,eo45⟩:=Kd.R_slice HO128.out;subst eo45)))
             go_loopg [67] kj28 (fun kq v67 w' => ∃ (x67_4:Int),v67 = .int .i64 x67_4∧Aside0 (patch_May.l1 kq l0 x5_28 t123 l0 (l0.length:Int) x11_1 t126 (t126.length:Int) x67_4=some r)∧Aside0 (kq≤kj28)∧Aside0 (Kd.R k45 45 w' w.heap.size (fun k_=>some k_≠((.slice Ao45 t126.length co45):Value).ownBlock) u5 x5_28)∧Aside0 (Kd.R (Kd.int .i64) 3 w' w.heap.size (fun _=>True) v124 t123)∧Aside0 (Kd.R k45 45 w' w.heap.size (fun k_=>some k_≠(u5:Value).ownBlock) (.slice Ao45 t126.length co45) t126)∧Aside0 (w'.heap[gb112]? = some (.cells #[(.slice A111_0 ((rd_T48 l0 x11_1).f0).length c111_0), .int .i64 ((rd_T48 l0 x11_1).f1.f0), .int .i64 ((rd_T48 l0 x11_1).f1.f1),(.slice A111_3 ((rd_T48 l0 x11_1).f2).length c111_3)] 48 (0,0)))∧Aside0 (Below w.heap.size w w'))
             (case atStart=>exact⟨(0),rs_,H',⟨Nat.le_refl _⟩,⟨Kd.R_mono (pRm_ HO_5.out) (fun _ hk=>hk.2)⟩,⟨pR_ HO125.out⟩,⟨Kd.R_mono (pRm_ HO128.out) (fun _ hk=>hk.2)⟩,⟨pK_ BK112.out⟩,⟨bs1_ GE112.out⟩⟩)
             case round =>
              clear H';(try clear c1);(try clear p1);(try clear q1);(try clear hx1);(try clear qi1);(try clear c2);(try clear p2);(try clear c3);(try clear p6);(try clear c11);(try clear p11);(try clear q11);(try clear hx11);(try clear qi11);(try clear c12);(try clear c13);(try clear c14);(try clear c14b0);(try clear c14b1);(try clear c14b2);(try clear c15);(try clear c25);(try clear c27);(try clear c27b0);(try clear c27b1);(try clear c28);(try clear c28b0);(try clear c28b1);(try clear c33);(try clear c33b0);(try clear c35);(try clear c35b0);(try clear c36);(try clear c36b0);(try clear hcz30_0);(try clear hcz30_1);(try clear hcz30_2);(try clear hcz30_3);(try clear hcz41_0);(try clear hcz41_1);(try clear hcz41_2);(try clear hcz41_3);(try clear hcz43_0);(try clear hcz43_1);(try clear hcz43_2);(try clear hcz43_3);(try clear hfz30_0);(try clear hfz30_1);(try clear hfz30_2);(try clear hfz30_3);(try clear hfz41_0);(try clear hfz41_1);(try clear hfz41_2);(try clear hfz41_3);(try clear hfz43_0);(try clear hfz43_1);(try clear hfz43_2);(try clear hfz43_3);(try clear hx114_0);(try clear hx114_1);(try clear hx119_0);(try clear hx119_1);(try clear hx119_2);(try clear hx119_3);(try clear p1);(try clear p11);(try clear p114);(try clear p119);(try clear p2);(try clear p6);(try clear q1);(try clear q11);(try clear q114);(try clear q119);obtain⟨x67_4,rfl,HA,HK4,HO_5,HO_6,HO_65,BK112,HB⟩:=hrel
              cases gk with
              | zero=>exact absurd HA.out (by simp[patch_May.l1])
              | succ k4 =>
               have H:=HA.out;clear HA;(simp only[patch_May.l1] at H)
               by_cases c46:x67_4 < (t126.length:Int)
               ·
                (rw[if_pos c46] at H);have c46b0:decide (x67_4 < (t126.length:Int))=true:=decide_eq_true c46;clear c46
                by_cases c47:0≤x67_4
                ·
                 (rw[if_pos c47] at H);have c47b0:decide (0≤x67_4)=true:=decide_eq_true c47;clear c47
                 by_cases c48:x67_4 < (t126.length:Int)
                 ·
                  (rw[if_pos c48] at H);have c48b0:decide (x67_4 < (t126.length:Int))=true:=decide_eq_true c48;clear c48
                  by_cases c49:x67_4 < (x5_28.length:Int)
                  ·
                   (rw[if_pos c49] at H);have c49b0:decide (x67_4 < (x5_28.length:Int))=true:=decide_eq_true c49;clear c49
                   by_cases c50:x67_4 < (t123.length:Int)
                   ·
                    (rw[if_pos c50] at H);have c50b0:decide (x67_4 < (t123.length:Int))=true:=decide_eq_true c50;clear c50;replace H:=Option.bind_eq_some_iff.mp H;obtain⟨t133,A510,H⟩:=H;(try dsimp only at H);have A51:=Aside0.mk A510;clear A510
                    by_cases c52:t133=true
                    ·
                     subst c52;have H1:=H;(rw[if_pos rfl] at H1);clear H;have H:=H1;clear H1;have H':=Aside0.mk H;clear H;have p129:0≤(x67_4:Int):=dt_;have q129:x67_4 < (t126.length:Int):=dt_;obtain⟨ad129,e129,hx129_0,hx129_1⟩:=at_T45 (Kd.R_reads' HO_65.out).2.2 x67_4 p129 q129;cases e129;replace p129:=eq_true p129;replace q129:=eq_true q129;(try go_wp2_with (first|((with_reducible refine gate_dst (N:=8) rfl ?_);(try(refine gate_guard (by rfl) ?_;dsimp only));refine box_event ?hg (N:=8) ?hd (cs:=#[.int .i64 0, .int .i64 0]) (t:=45) ?hr ?_;(case hd=>rfl);(case hg=>rfl);(case hr=>first|(go_simp;done)|(go_simp;rfl));intro gb130 hg w53 hbox hb;replace HO_5:=Aside0.mk (Kd.R_below (Kd.R_elderB (pR_ HO_5.out) gb130 (Nat.le_of_eq hg.symm)) hb);replace HO_6:=Aside0.mk (Kd.R_below (pR_ HO_6.out) hb);replace HO_65:=Aside0.mk (Kd.R_below (Kd.R_elderB (pR_ HO_65.out) gb130 (Nat.le_of_eq hg.symm)) hb);have BK130:=Aside0.mk (hbox);have GW130:=Aside0.mk ((by rw[hg];exact(below_size (bs1_ GE112.out)):w.heap.size≤gb130));have GE130:=Aside0.mk ((by rw[hg];exact(below_size (bs1_ GE112.out)):w.heap.size≤gb130));replace HB:=Aside0.mk (below_step (bs1_ GE112.out) hb);have NB112_130:=Aside0.mk ((by rw[hg];exact Nat.ne_of_lt (blk_lt (g:=gb112) (o := .cells #[.slice A111_0 ((rd_T48 l0 x11_1).f0).length c111_0, .int .i64 ((rd_T48 l0 x11_1).f1.f0), .int .i64 ((rd_T48 l0 x11_1).f1.f1), .slice A111_3 ((rd_T48 l0 x11_1).f2).length c111_3] 48 (0,0)) (pK_ BK112.out)):gb112≠gb130));have NB130_112:=Aside0.mk ((by rw[hg];exact Nat.ne_of_gt (blk_lt (g:=gb112) (o := .cells #[.slice A111_0 ((rd_T48 l0 x11_1).f0).length c111_0, .int .i64 ((rd_T48 l0 x11_1).f1.f0), .int .i64 ((rd_T48 l0 x11_1).f1.f1), .slice A111_3 ((rd_T48 l0 x11_1).f2).length c111_3] 48 (0,0)) (pK_ BK112.out)):gb130≠gb112));replace BK112:=Aside0.mk (blk_below (g:=gb112) (o := .cells #[.slice A111_0 ((rd_T48 l0 x11_1).f0).length c111_0, .int .i64 ((rd_T48 l0 x11_1).f1.f0), .int .i64 ((rd_T48 l0 x11_1).f1.f1), .slice A111_3 ((rd_T48 l0 x11_1).f2).length c111_3] 48 (0,0)) (pK_ BK112.out) hb);clear hb hbox hg;have hnb54:=NB130_112.out;have hnc54:=NB112_130.out;have hcz55_0:w53.cell? ⟨gb130,0,none⟩=some (.int .i64 0):=(blk_cell BK130.out 0).trans rfl;have hcz55_1:w53.cell? ⟨gb130,1,none⟩=some (.int .i64 0):=(blk_cell BK130.out 1).trans rfl;have hfz55_0:=blk_frozen BK130.out 0;have hfz55_1:=blk_frozen BK130.out 1)));have n0_:Aside0 (Kd.R k45 45 ((w53.setCell ⟨gb130,0,none⟩ (.int .i64 ((rd_T45 t126 x67_4).f0))).setCell ⟨gb130,1,none⟩ (.int .i64 ((rd_T45 t126 x67_4).f1))) w.heap.size (fun k_=>some k_≠(.slice (some ad129) t126.length co45:Value).ownBlock∧k_≠gb130) u5 x5_28):=⟨by(with_reducible repeat(first|apply Kd.R_alloc|apply Kd.R_drewN|apply Kd.R_drew));exact Kd.R_mono (Kd.R_far (p:=⟨gb130,1,none⟩) (Kd.R_far (p:=⟨gb130,0,none⟩) (Kd.R_mono HO_5.out (fun k_ hk=>(⟨hk,hk.2⟩:_∧k_≠gb130))) (fun _ hk=>hk.2) (.int .i64 ((rd_T45 t126 x67_4).f0))) (fun _ hk=>hk.2) (.int .i64 ((rd_T45 t126 x67_4).f1))) (fun _ hk=>⟨hk.1.1,hk.1.2⟩)⟩;have n1_:Aside0 (Kd.R (Kd.int .i64) 3 ((w53.setCell ⟨gb130,0,none⟩ (.int .i64 ((rd_T45 t126 x67_4).f0))).setCell ⟨gb130,1,none⟩ (.int .i64 ((rd_T45 t126 x67_4).f1))) w.heap.size (fun _=>True) v124 t123):=⟨by(with_reducible repeat(first|apply Kd.R_alloc|apply Kd.R_drewN|apply Kd.R_drew));exact Kd.R_mono (Kd.R_far (p:=⟨gb130,1,none⟩) (Kd.R_far (p:=⟨gb130,0,none⟩) (Kd.R_types HO_6.out BK130.out (by decide)) (fun _ hk=>hk.2) (.int .i64 ((rd_T45 t126 x67_4).f0))) (fun _ hk=>hk.2) (.int .i64 ((rd_T45 t126 x67_4).f1))) (fun _ hk=>trivial)⟩;have n2_:Aside0 (Kd.R k45 45 ((w53.setCell ⟨gb130,0,none⟩ (.int .i64 ((rd_T45 t126 x67_4).f0))).setCell ⟨gb130,1,none⟩ (.int .i64 ((rd_T45 t126 x67_4).f1))) w.heap.size (fun k_=>some k_≠(u5:Value).ownBlock∧k_≠gb130) (.slice (some ad129) t126.length co45) t126):=⟨by(with_reducible repeat(first|apply Kd.R_alloc|apply Kd.R_drewN|apply Kd.R_drew));exact Kd.R_mono (Kd.R_far (p:=⟨gb130,1,none⟩) (Kd.R_far (p:=⟨gb130,0,none⟩) (Kd.R_mono HO_65.out (fun k_ hk=>(⟨hk,hk.2⟩:_∧k_≠gb130))) (fun _ hk=>hk.2) (.int .i64 ((rd_T45 t126 x67_4).f0))) (fun _ hk=>hk.2) (.int .i64 ((rd_T45 t126 x67_4).f1))) (fun _ hk=>⟨hk.1.1,hk.1.2⟩)⟩
                     have n3_:Aside0 (((w53.setCell ⟨gb130,0,none⟩ (.int .i64 ((rd_T45 t126 x67_4).f0))).setCell ⟨gb130,1,none⟩ (.int .i64 ((rd_T45 t126 x67_4).f1))).heap[gb112]? = some (.cells #[.slice A111_0 ((rd_T48 l0 x11_1).f0).length c111_0, .int .i64 ((rd_T48 l0 x11_1).f1.f0), .int .i64 ((rd_T48 l0 x11_1).f1.f1), .slice A111_3 ((rd_T48 l0 x11_1).f2).length c111_3] 48 (0,0))):=⟨by(with_reducible repeat(first|refine blk_drewN ?_ _|refine blk_drew ?_|refine blk_alloc ?_ _));refine blk_far ?_ NB112_130.out _;(with_reducible repeat(first|refine blk_drewN ?_ _|refine blk_drew ?_|refine blk_alloc ?_ _));refine blk_far ?_ NB112_130.out _;(with_reducible repeat(first|refine blk_drewN ?_ _|refine blk_drew ?_|refine blk_alloc ?_ _));exact BK112.out⟩;have n4_:Aside0 (((w53.setCell ⟨gb130,0,none⟩ (.int .i64 ((rd_T45 t126 x67_4).f0))).setCell ⟨gb130,1,none⟩ (.int .i64 ((rd_T45 t126 x67_4).f1))).heap[gb130]? = some (.cells #[.int .i64 ((rd_T45 t126 x67_4).f0), .int .i64 ((rd_T45 t126 x67_4).f1)] 45 (0,0))):=⟨by(with_reducible repeat(first|refine blk_drewN ?_ _|refine blk_drew ?_|refine blk_alloc ?_ _));refine blk_put (cs:=#[.int .i64 ((rd_T45 t126 x67_4).f0), .int .i64 0]) ?_ 1 _ rfl;(with_reducible repeat(first|refine blk_drewN ?_ _|refine blk_drew ?_|refine blk_alloc ?_ _));refine blk_put (cs:=#[.int .i64 0, .int .i64 0]) ?_ 0 _ rfl;(with_reducible repeat(first|refine blk_drewN ?_ _|refine blk_drew ?_|refine blk_alloc ?_ _));exact BK130.out⟩;have n5_:Aside0 (Below w.heap.size w ((w53.setCell ⟨gb130,0,none⟩ (.int .i64 ((rd_T45 t126 x67_4).f0))).setCell ⟨gb130,1,none⟩ (.int .i64 ((rd_T45 t126 x67_4).f1)))):=⟨bs2_ GE112.out GE130.out⟩;(try clear HO_5);(try clear HO_6);(try clear HO_65);(try clear BK112);(try clear BK130);(try clear HB);(generalize ((w53.setCell ⟨gb130,0,none⟩ (.int .i64 ((rd_T45 t126 x67_4).f0))).setCell ⟨gb130,1,none⟩ (.int .i64 ((rd_T45 t126 x67_4).f1)))=w56 at n0_ n1_ n2_ n3_ n4_ n5_ ⊢);have HO_5:=n0_;have HO_6:=n1_;have HO_65:=n2_;have BK112:=n3_;have BK130:=n4_;have HB:=n5_;clear n0_ n1_ n2_ n3_ n4_ n5_;replace HO_5:=Aside0.mk (Kd.R_drew HO_5.out);replace HO_6:=Aside0.mk (Kd.R_drew HO_6.out);replace HO_65:=Aside0.mk (Kd.R_drew HO_65.out);replace BK112:=Aside0.mk (blk_drew BK112.out);replace BK130:=Aside0.mk (blk_drew BK130.out);replace HB:=Aside0.mk (below_drew1 HB.out);obtain⟨Ao58,co58,eo58⟩:=Kd.R_slice HO_5.out;(first|subst eo58|(injection eo58 with f1_ f2_ f3_;have f4_:=f1_.symm;have f5_:=f3_.symm;clear f1_ f2_ f3_;subst f4_;subst f5_));have p131:0≤(x67_4:Int):=dt_;have q131:x67_4 < (x5_28.length:Int):=dt_;obtain⟨ad131,e131,hx131_0,hx131_1⟩:=at_T45 (Kd.R_reads' HO_5.out).2.2 x67_4 p131 q131;cases e131;replace p131:=eq_true p131;replace q131:=eq_true q131;obtain⟨Ao59,co59,eo59⟩:=Kd.R_slice HO_6.out;(first|subst eo59|(injection eo59 with f1_ f2_ f3_;have f4_:=f1_.symm;have f5_:=f3_.symm;clear f1_ f2_ f3_;subst f4_;subst f5_));have p132:0≤(x67_4:Int):=dt_;have q132:x67_4 < (t123.length:Int):=dt_;obtain⟨ad132,e132,hx132_0⟩:=Kd.at_int (Kd.R_reads' HO_6.out).2.2 x67_4 p132 q132;cases e132;replace p132:=eq_true p132;replace q132:=eq_true q132;(refine start_ (n:=11) (S:=fun w'=>w'.cell? ⟨gb130,0,none⟩=some (.int .i64 ((rd_T45 t126 x67_4).f0))∧w'.cell? ⟨gb130,1,none⟩=some (.int .i64 ((rd_T45 t126 x67_4).f1))∧w'.cell? (ad131.add ((x67_4).toNat * 2))=some (.int .i64 ((rd_T45 x5_28 x67_4).f0))∧w'.cell? ⟨(ad131.add ((x67_4).toNat * 2)).block,(ad131.add ((x67_4).toNat * 2)).off+1,none⟩=some (.int .i64 ((rd_T45 x5_28 x67_4).f1))∧w'.cell? (ad132.add (x67_4).toNat)=some (.int .i64 (rd t123 x67_4))) (ds:=[]) (bm_ 11 0) (by kernel_rfl) rfl rfl ⟨(blk_cell BK130.out 0).trans rfl,(blk_cell BK130.out 1).trans rfl,hx131_0,hx131_1,hx132_0⟩ (fun hHeld=>?_);refine with_tabW patch_May.tab13 patch_May.bits13 (fun HT_ HW_=>?_));(generalize w56.drew=w57 at HO_5 HO_6 HO_65 BK112 BK130 HB hx131_0 hx131_1 hx132_0 hHeld ⊢);refine pq_ (i:=1) (N:=some 73) (hc:=any_of HT_.out (by kernel_rfl)) (bm_ 11 2) ?_;refine pq_ (i:=2) (N:=some 74) (hc:=any_of HT_.out (by kernel_rfl)) (bm_ 11 6) ?_;refine pq_ (i:=3) (N:=some 75) (hc:=any_of HT_.out (by kernel_rfl)) (bm_ 11 14) ?_
                     refine pq_ (i:=5) (N:=some 77) (hc:=any_of HT_.out (by kernel_rfl)) (bm_ 11 46) ?_;refine pq_ (i:=6) (N:=some 78) (hc:=any_of HT_.out (by kernel_rfl)) (bm_ 11 110) ?_;refine pq_ (i:=7) (N:=some 79) (hc:=any_of HT_.out (by kernel_rfl)) (bm_ 11 238) ?_;refine tq_ (i:=0) (N:=some 72) (hc:=take_ofW HT_.out HW_.out (by kernel_rfl)) (bm_ 11 239) hHeld ?_;refine tq_ (i:=4) (N:=some 76) (hc:=take_ofW HT_.out HW_.out (by kernel_rfl)) (bm_ 11 255) hHeld ?_;refine tq_ (i:=8) (N:=some 80) (hc:=take_ofW HT_.out HW_.out (by kernel_rfl)) (bm_ 11 511) hHeld ?_;refine one_ (i:=9) (N:=some 81) (bm_ 11 1023) rfl rfl (one_of HT_.out (by kernel_rfl)) (by decide) (fun K hK=>?_);refine goes_ Tryd.func114 (by kernel_rfl) rfl #[.agg #[.int .i64 ((rd_T45 t126 x67_4).f0), .int .i64 ((rd_T45 t126 x67_4).f1)], .agg #[.int .i64 ((rd_T45 x5_28 x67_4).f0), .int .i64 ((rd_T45 x5_28 x67_4).f1)], .int .i64 (rd t123 x67_4)] (by rfl) rfl rfl am_ ?_;(with_reducible refine(patch_within.calls ((rd_T45 t126 x67_4).f0) ((rd_T45 t126 x67_4).f1) ((rd_T45 x5_28 x67_4).f0) ((rd_T45 x5_28 x67_4).f1) (rd t123 x67_4) true _ A51.out).mono ?_);rintro e w60 ⟨rfl,hb⟩;have HS2_:=(hb.cell (World.block_lt_of_cell? _ _ (hHeld.2.2.1))).trans (hHeld.2.2.1);have HS3_:=(hb.cell (World.block_lt_of_cell? _ _ (hHeld.2.2.2.1))).trans (hHeld.2.2.2.1);have HS4_:=(hb.cell (World.block_lt_of_cell? _ _ (hHeld.2.2.2.2))).trans (hHeld.2.2.2.2);refine⟨_,rfl,?_⟩;replace HO_5:=Aside0.mk (Kd.R_below (pR_ HO_5.out) hb);replace HO_6:=Aside0.mk (Kd.R_below (pR_ HO_6.out) hb);replace HO_65:=Aside0.mk (Kd.R_below (pR_ HO_65.out) hb);replace BK112:=Aside0.mk (blk_below (g:=gb112) (o := .cells #[.slice A111_0 ((rd_T48 l0 x11_1).f0).length c111_0, .int .i64 ((rd_T48 l0 x11_1).f1.f0), .int .i64 ((rd_T48 l0 x11_1).f1.f1), .slice A111_3 ((rd_T48 l0 x11_1).f2).length c111_3] 48 (0,0)) (pK_ BK112.out) hb);replace BK130:=Aside0.mk (blk_below (g:=gb130) (o := .cells #[.int .i64 ((rd_T45 t126 x67_4).f0), .int .i64 ((rd_T45 t126 x67_4).f1)] 45 (0,0)) (pK_ BK130.out) hb);replace HB:=Aside0.mk (below_step (bs2_ GE112.out GE130.out) hb);(try clear hb);(try clear hb2);(try clear hk);(try clear hi);refine hK.out _ _ ⟨(blk_cell BK130.out 0).trans rfl,(blk_cell BK130.out 1).trans rfl,HS2_,HS3_,HS4_⟩ (fun hHeld=>?_);clear hK K;refine nq_ (N:=some 81) ?_;refine pq_ (i:=10) (N:=some 82) (hc:=any_of HT_.out (by kernel_rfl)) (bm_ 11 2047) ?_;refine done_ (done_of HT_.out (by kernel_rfl)) ?_;(try go_wp2)
                     go_roundg k4
                     (case measure=>have:=HK1.out;have:=HJ4.out;have:=HJ28.out;have:=HK4.out;omega);(case rel=>exact⟨(wrap64 (x67_4+1)),rs_,H',⟨by have:=HK1.out;have:=HJ4.out;have:=HJ28.out;have:=HK4.out;omega⟩,⟨Kd.R_mono (pRm_ HO_5.out) (fun _ hk=>hk.1)⟩,⟨pR_ HO_6.out⟩,⟨Kd.R_mono (pRm_ HO_65.out) (fun _ hk=>hk.1)⟩,⟨pK_ BK112.out⟩,⟨bs2_ GE112.out GE130.out⟩⟩)
                    ·
                     replace c52:=Bool.eq_false_iff.mpr c52;subst c52;have H1:=H;(rw[if_neg (show ¬ (false=true) by decide)] at H1);clear H;have H:=H1;clear H1;obtain rfl:=Option.some.inj H;have p129:0≤(x67_4:Int):=dt_;have q129:x67_4 < (t126.length:Int):=dt_;obtain⟨ad129,e129,hx129_0,hx129_1⟩:=at_T45 (Kd.R_reads' HO_65.out).2.2 x67_4 p129 q129;cases e129;replace p129:=eq_true p129;replace q129:=eq_true q129;(try go_wp2_with (first|((with_reducible refine gate_dst (N:=8) rfl ?_);(try(refine gate_guard (by rfl) ?_;dsimp only));refine box_event ?hg (N:=8) ?hd (cs:=#[.int .i64 0, .int .i64 0]) (t:=45) ?hr ?_;(case hd=>rfl);(case hg=>rfl);(case hr=>first|(go_simp;done)|(go_simp;rfl));intro gb130 hg w61 hbox hb;replace HO_5:=Aside0.mk (Kd.R_below (Kd.R_elderB (pR_ HO_5.out) gb130 (Nat.le_of_eq hg.symm)) hb);replace HO_6:=Aside0.mk (Kd.R_below (pR_ HO_6.out) hb);replace HO_65:=Aside0.mk (Kd.R_below (Kd.R_elderB (pR_ HO_65.out) gb130 (Nat.le_of_eq hg.symm)) hb);have BK130:=Aside0.mk (hbox);have GW130:=Aside0.mk ((by rw[hg];exact(below_size (bs1_ GE112.out)):w.heap.size≤gb130));have GE130:=Aside0.mk ((by rw[hg];exact(below_size (bs1_ GE112.out)):w.heap.size≤gb130));replace HB:=Aside0.mk (below_step (bs1_ GE112.out) hb);have NB112_130:=Aside0.mk ((by rw[hg];exact Nat.ne_of_lt (blk_lt (g:=gb112) (o := .cells #[.slice A111_0 ((rd_T48 l0 x11_1).f0).length c111_0, .int .i64 ((rd_T48 l0 x11_1).f1.f0), .int .i64 ((rd_T48 l0 x11_1).f1.f1), .slice A111_3 ((rd_T48 l0 x11_1).f2).length c111_3] 48 (0,0)) (pK_ BK112.out)):gb112≠gb130));have NB130_112:=Aside0.mk ((by rw[hg];exact Nat.ne_of_gt (blk_lt (g:=gb112) (o := .cells #[.slice A111_0 ((rd_T48 l0 x11_1).f0).length c111_0, .int .i64 ((rd_T48 l0 x11_1).f1.f0), .int .i64 ((rd_T48 l0 x11_1).f1.f1), .slice A111_3 ((rd_T48 l0 x11_1).f2).length c111_3] 48 (0,0)) (pK_ BK112.out)):gb130≠gb112));replace BK112:=Aside0.mk (blk_below (g:=gb112) (o := .cells #[.slice A111_0 ((rd_T48 l0 x11_1).f0).length c111_0, .int .i64 ((rd_T48 l0 x11_1).f1.f0), .int .i64 ((rd_T48 l0 x11_1).f1.f1), .slice A111_3 ((rd_T48 l0 x11_1).f2).length c111_3] 48 (0,0)) (pK_ BK112.out) hb);clear hb hbox hg;have hnb62:=NB130_112.out;have hnc62:=NB112_130.out;have hcz63_0:w61.cell? ⟨gb130,0,none⟩=some (.int .i64 0):=(blk_cell BK130.out 0).trans rfl;have hcz63_1:w61.cell? ⟨gb130,1,none⟩=some (.int .i64 0):=(blk_cell BK130.out 1).trans rfl;have hfz63_0:=blk_frozen BK130.out 0;have hfz63_1:=blk_frozen BK130.out 1)));have n0_:Aside0 (Kd.R k45 45 ((w61.setCell ⟨gb130,0,none⟩ (.int .i64 ((rd_T45 t126 x67_4).f0))).setCell ⟨gb130,1,none⟩ (.int .i64 ((rd_T45 t126 x67_4).f1))) w.heap.size (fun k_=>some k_≠(.slice (some ad129) t126.length co45:Value).ownBlock∧k_≠gb130) u5 x5_28):=⟨by(with_reducible repeat(first|apply Kd.R_alloc|apply Kd.R_drewN|apply Kd.R_drew));exact Kd.R_mono (Kd.R_far (p:=⟨gb130,1,none⟩) (Kd.R_far (p:=⟨gb130,0,none⟩) (Kd.R_mono HO_5.out (fun k_ hk=>(⟨hk,hk.2⟩:_∧k_≠gb130))) (fun _ hk=>hk.2) (.int .i64 ((rd_T45 t126 x67_4).f0))) (fun _ hk=>hk.2) (.int .i64 ((rd_T45 t126 x67_4).f1))) (fun _ hk=>⟨hk.1.1,hk.1.2⟩)⟩;have n1_:Aside0 (Kd.R (Kd.int .i64) 3 ((w61.setCell ⟨gb130,0,none⟩ (.int .i64 ((rd_T45 t126 x67_4).f0))).setCell ⟨gb130,1,none⟩ (.int .i64 ((rd_T45 t126 x67_4).f1))) w.heap.size (fun _=>True) v124 t123):=⟨by(with_reducible repeat(first|apply Kd.R_alloc|apply Kd.R_drewN|apply Kd.R_drew));exact Kd.R_mono (Kd.R_far (p:=⟨gb130,1,none⟩) (Kd.R_far (p:=⟨gb130,0,none⟩) (Kd.R_types HO_6.out BK130.out (by decide)) (fun _ hk=>hk.2) (.int .i64 ((rd_T45 t126 x67_4).f0))) (fun _ hk=>hk.2) (.int .i64 ((rd_T45 t126 x67_4).f1))) (fun _ hk=>trivial)⟩;have n2_:Aside0 (Kd.R k45 45 ((w61.setCell ⟨gb130,0,none⟩ (.int .i64 ((rd_T45 t126 x67_4).f0))).setCell ⟨gb130,1,none⟩ (.int .i64 ((rd_T45 t126 x67_4).f1))) w.heap.size (fun k_=>some k_≠(u5:Value).ownBlock∧k_≠gb130) (.slice (some ad129) t126.length co45) t126):=⟨by(with_reducible repeat(first|apply Kd.R_alloc|apply Kd.R_drewN|apply Kd.R_drew));exact Kd.R_mono (Kd.R_far (p:=⟨gb130,1,none⟩) (Kd.R_far (p:=⟨gb130,0,none⟩) (Kd.R_mono HO_65.out (fun k_ hk=>(⟨hk,hk.2⟩:_∧k_≠gb130))) (fun _ hk=>hk.2) (.int .i64 ((rd_T45 t126 x67_4).f0))) (fun _ hk=>hk.2) (.int .i64 ((rd_T45 t126 x67_4).f1))) (fun _ hk=>⟨hk.1.1,hk.1.2⟩)⟩
                     have n3_:Aside0 (((w61.setCell ⟨gb130,0,none⟩ (.int .i64 ((rd_T45 t126 x67_4).f0))).setCell ⟨gb130,1,none⟩ (.int .i64 ((rd_T45 t126 x67_4).f1))).heap[gb112]? = some (.cells #[.slice A111_0 ((rd_T48 l0 x11_1).f0).length c111_0, .int .i64 ((rd_T48 l0 x11_1).f1.f0), .int .i64 ((rd_T48 l0 x11_1).f1.f1), .slice A111_3 ((rd_T48 l0 x11_1).f2).length c111_3] 48 (0,0))):=⟨by(with_reducible repeat(first|refine blk_drewN ?_ _|refine blk_drew ?_|refine blk_alloc ?_ _));refine blk_far ?_ NB112_130.out _;(with_reducible repeat(first|refine blk_drewN ?_ _|refine blk_drew ?_|refine blk_alloc ?_ _));refine blk_far ?_ NB112_130.out _;(with_reducible repeat(first|refine blk_drewN ?_ _|refine blk_drew ?_|refine blk_alloc ?_ _));exact BK112.out⟩;have n4_:Aside0 (((w61.setCell ⟨gb130,0,none⟩ (.int .i64 ((rd_T45 t126 x67_4).f0))).setCell ⟨gb130,1,none⟩ (.int .i64 ((rd_T45 t126 x67_4).f1))).heap[gb130]? = some (.cells #[.int .i64 ((rd_T45 t126 x67_4).f0), .int .i64 ((rd_T45 t126 x67_4).f1)] 45 (0,0))):=⟨by(with_reducible repeat(first|refine blk_drewN ?_ _|refine blk_drew ?_|refine blk_alloc ?_ _));refine blk_put (cs:=#[.int .i64 ((rd_T45 t126 x67_4).f0), .int .i64 0]) ?_ 1 _ rfl;(with_reducible repeat(first|refine blk_drewN ?_ _|refine blk_drew ?_|refine blk_alloc ?_ _));refine blk_put (cs:=#[.int .i64 0, .int .i64 0]) ?_ 0 _ rfl;(with_reducible repeat(first|refine blk_drewN ?_ _|refine blk_drew ?_|refine blk_alloc ?_ _));exact BK130.out⟩;have n5_:Aside0 (Below w.heap.size w ((w61.setCell ⟨gb130,0,none⟩ (.int .i64 ((rd_T45 t126 x67_4).f0))).setCell ⟨gb130,1,none⟩ (.int .i64 ((rd_T45 t126 x67_4).f1)))):=⟨bs2_ GE112.out GE130.out⟩;(try clear HO_5);(try clear HO_6);(try clear HO_65);(try clear BK112);(try clear BK130);(try clear HB);(generalize ((w61.setCell ⟨gb130,0,none⟩ (.int .i64 ((rd_T45 t126 x67_4).f0))).setCell ⟨gb130,1,none⟩ (.int .i64 ((rd_T45 t126 x67_4).f1)))=w64 at n0_ n1_ n2_ n3_ n4_ n5_ ⊢);have HO_5:=n0_;have HO_6:=n1_;have HO_65:=n2_;have BK112:=n3_;have BK130:=n4_;have HB:=n5_;clear n0_ n1_ n2_ n3_ n4_ n5_;replace HO_5:=Aside0.mk (Kd.R_drew HO_5.out);replace HO_6:=Aside0.mk (Kd.R_drew HO_6.out);replace HO_65:=Aside0.mk (Kd.R_drew HO_65.out);replace BK112:=Aside0.mk (blk_drew BK112.out);replace BK130:=Aside0.mk (blk_drew BK130.out);replace HB:=Aside0.mk (below_drew1 HB.out);obtain⟨Ao66,co66,eo66⟩:=Kd.R_slice HO_5.out;(first|subst eo66|(injection eo66 with f1_ f2_ f3_;have f4_:=f1_.symm;have f5_:=f3_.symm;clear f1_ f2_ f3_;subst f4_;subst f5_));have p131:0≤(x67_4:Int):=dt_;have q131:x67_4 < (x5_28.length:Int):=dt_;obtain⟨ad131,e131,hx131_0,hx131_1⟩:=at_T45 (Kd.R_reads' HO_5.out).2.2 x67_4 p131 q131;cases e131;replace p131:=eq_true p131;replace q131:=eq_true q131;obtain⟨Ao67,co67,eo67⟩:=Kd.R_slice HO_6.out;(first|subst eo67|(injection eo67 with f1_ f2_ f3_;have f4_:=f1_.symm;have f5_:=f3_.symm;clear f1_ f2_ f3_;subst f4_;subst f5_));have p132:0≤(x67_4:Int):=dt_;have q132:x67_4 < (t123.length:Int):=dt_;obtain⟨ad132,e132,hx132_0⟩:=Kd.at_int (Kd.R_reads' HO_6.out).2.2 x67_4 p132 q132;cases e132;replace p132:=eq_true p132;replace q132:=eq_true q132;(refine start_ (n:=11) (S:=fun w'=>w'.cell? ⟨gb130,0,none⟩=some (.int .i64 ((rd_T45 t126 x67_4).f0))∧w'.cell? ⟨gb130,1,none⟩=some (.int .i64 ((rd_T45 t126 x67_4).f1))∧w'.cell? (ad131.add ((x67_4).toNat * 2))=some (.int .i64 ((rd_T45 x5_28 x67_4).f0))∧w'.cell? ⟨(ad131.add ((x67_4).toNat * 2)).block,(ad131.add ((x67_4).toNat * 2)).off+1,none⟩=some (.int .i64 ((rd_T45 x5_28 x67_4).f1))∧w'.cell? (ad132.add (x67_4).toNat)=some (.int .i64 (rd t123 x67_4))) (ds:=[]) (bm_ 11 0) (by kernel_rfl) rfl rfl ⟨(blk_cell BK130.out 0).trans rfl,(blk_cell BK130.out 1).trans rfl,hx131_0,hx131_1,hx132_0⟩ (fun hHeld=>?_);refine with_tabW patch_May.tab13 patch_May.bits13 (fun HT_ HW_=>?_));(generalize w64.drew=w65 at HO_5 HO_6 HO_65 BK112 BK130 HB hx131_0 hx131_1 hx132_0 hHeld ⊢);refine pq_ (i:=1) (N:=some 73) (hc:=any_of HT_.out (by kernel_rfl)) (bm_ 11 2) ?_;refine pq_ (i:=2) (N:=some 74) (hc:=any_of HT_.out (by kernel_rfl)) (bm_ 11 6) ?_;refine pq_ (i:=3) (N:=some 75) (hc:=any_of HT_.out (by kernel_rfl)) (bm_ 11 14) ?_
                     refine pq_ (i:=5) (N:=some 77) (hc:=any_of HT_.out (by kernel_rfl)) (bm_ 11 46) ?_;refine pq_ (i:=6) (N:=some 78) (hc:=any_of HT_.out (by kernel_rfl)) (bm_ 11 110) ?_;refine pq_ (i:=7) (N:=some 79) (hc:=any_of HT_.out (by kernel_rfl)) (bm_ 11 238) ?_;refine tq_ (i:=0) (N:=some 72) (hc:=take_ofW HT_.out HW_.out (by kernel_rfl)) (bm_ 11 239) hHeld ?_;refine tq_ (i:=4) (N:=some 76) (hc:=take_ofW HT_.out HW_.out (by kernel_rfl)) (bm_ 11 255) hHeld ?_;refine tq_ (i:=8) (N:=some 80) (hc:=take_ofW HT_.out HW_.out (by kernel_rfl)) (bm_ 11 511) hHeld ?_;refine one_ (i:=9) (N:=some 81) (bm_ 11 1023) rfl rfl (one_of HT_.out (by kernel_rfl)) (by decide) (fun K hK=>?_);refine goes_ Tryd.func114 (by kernel_rfl) rfl #[.agg #[.int .i64 ((rd_T45 t126 x67_4).f0), .int .i64 ((rd_T45 t126 x67_4).f1)], .agg #[.int .i64 ((rd_T45 x5_28 x67_4).f0), .int .i64 ((rd_T45 x5_28 x67_4).f1)], .int .i64 (rd t123 x67_4)] (by rfl) rfl rfl am_ ?_;(with_reducible refine(patch_within.calls ((rd_T45 t126 x67_4).f0) ((rd_T45 t126 x67_4).f1) ((rd_T45 x5_28 x67_4).f0) ((rd_T45 x5_28 x67_4).f1) (rd t123 x67_4) false _ A51.out).mono ?_);rintro e w68 ⟨rfl,hb⟩;have HS2_:=(hb.cell (World.block_lt_of_cell? _ _ (hHeld.2.2.1))).trans (hHeld.2.2.1);have HS3_:=(hb.cell (World.block_lt_of_cell? _ _ (hHeld.2.2.2.1))).trans (hHeld.2.2.2.1);have HS4_:=(hb.cell (World.block_lt_of_cell? _ _ (hHeld.2.2.2.2))).trans (hHeld.2.2.2.2);refine⟨_,rfl,?_⟩;replace HO_5:=Aside0.mk (Kd.R_below (pR_ HO_5.out) hb);replace HO_6:=Aside0.mk (Kd.R_below (pR_ HO_6.out) hb);replace HO_65:=Aside0.mk (Kd.R_below (pR_ HO_65.out) hb);replace BK112:=Aside0.mk (blk_below (g:=gb112) (o := .cells #[.slice A111_0 ((rd_T48 l0 x11_1).f0).length c111_0, .int .i64 ((rd_T48 l0 x11_1).f1.f0), .int .i64 ((rd_T48 l0 x11_1).f1.f1), .slice A111_3 ((rd_T48 l0 x11_1).f2).length c111_3] 48 (0,0)) (pK_ BK112.out) hb);replace BK130:=Aside0.mk (blk_below (g:=gb130) (o := .cells #[.int .i64 ((rd_T45 t126 x67_4).f0), .int .i64 ((rd_T45 t126 x67_4).f1)] 45 (0,0)) (pK_ BK130.out) hb);replace HB:=Aside0.mk (below_step (bs2_ GE112.out GE130.out) hb);(try clear hb);(try clear hb2);(try clear hk);(try clear hi);refine hK.out _ _ ⟨(blk_cell BK130.out 0).trans rfl,(blk_cell BK130.out 1).trans rfl,HS2_,HS3_,HS4_⟩ (fun hHeld=>?_);clear hK K;refine nq_ (N:=some 81) ?_;refine pq_ (i:=10) (N:=some 82) (hc:=any_of HT_.out (by kernel_rfl)) (bm_ 11 2047) ?_;refine done_ (done_of HT_.out (by kernel_rfl)) ?_;(try go_wp2);go_ret
                     exact⟨by first|rfl|(simp[errW_none,errW_some] <;> rfl)|(simp only[← hji26];first|rfl|(simp[errW_none,errW_some] <;> rfl))|(simp[*,errW_none,errW_some] <;> rfl),by repeat(first|(with_reducible first|exact HB.out|apply below_alloc|apply pw_below_drewN|apply below_drew1|refine below_set ?_ GE112.out|refine below_set ?_ GE130.out)|exact HB.out)⟩
                   (· exact nx_ c50 H)
                  (· exact nx_ c49 H)
                 (· exact nx_ c48 H)
                (· exact nx_ c47 H)
               ·
                (rw[if_neg c46] at H);have c46b0:decide (x67_4 < (t126.length:Int))=false:=decide_eq_false c46;clear c46;have H':=Aside0.mk H;clear H;go_wp2
                go_roundg k4
                (case measure=>have:=HK1.out;have:=HJ4.out;have:=HJ28.out;have:=HK4.out;omega);(case rel=>exact⟨(wrap64 (x11_1+1)),rs_,H',⟨by have:=HK1.out;have:=HJ4.out;have:=HJ28.out;have:=HK4.out;omega⟩,⟨bs1_ GE112.out⟩⟩)
          (· exact nx_ c28 H)
         (· exact nx_ c27 H)
     (· exact nx_ c4 H)
    (· exact nx_ c3 H)
   (· (rw[if_neg c2] at H);have c2b0:decide (x11_1 < (l0.length:Int))=false:=decide_eq_false c2;clear c2;obtain rfl:=Option.some.inj H;go_wp2;go_ret;exact⟨by first|rfl|(simp[errW_none,errW_some] <;> rfl)|(simp[*,errW_none,errW_some] <;> rfl),bel_⟩)
def apply_check.j0:Nat→List (S48)→Bool→Option (Int)
  | 0,_,_=>none
  | k+1,x0,x7=>if x7=true then (some 1) else ((patch_May.f k x0).bind fun t104=>(if t104=true then (some 0) else (some 2)))
def apply_check.f (k:Nat) (l0:List (S48)) (a1:Int) (l2:List ByteArray):Option (Int):=if a1 < 0 then (apply_check.j0 k l0 true) else (if (l0.length:Int) > 0 then (if 0 < (l0.length:Int) then (if a1 ≥ (((rd_T48 l0 0).f0).length:Int) then (apply_check.j0 k l0 true) else ((lines_May.f k l2).bind fun t102=>(apply_check.j0 k l0 (!t102)))) else (none)) else ((lines_May.f k l2).bind fun t103=>(apply_check.j0 k l0 (!t103))))
theorem apply_check.calls (k:Nat) (A0:Option Addr) (c0:Nat) (l0:List (S48)) (a1:Int) (A2:Option Addr) (c2:Nat) (l2:List ByteArray) (r:Int) (w:World) (hr0:Kd.C k48 w A0 l0.length l0) (hc0:l0.length≤c0) (hr2:Kd.C Kd.string w A2 l2.length l2) (hc2:l2.length≤c2) (h:apply_check.f k l0 a1 l2=some r) :
    Calls Tryd.prog 70 #[.slice A0 l0.length c0, .int .i64 a1, .slice A2 l2.length c2] w fun e w'=>e = .returned (.int .i64 r)∧Below w.heap.size w w':=by
 have HR0:=Aside0.mk hr0;have HC0:=Aside0.mk hc0;clear hr0 hc0;have HR2:=Aside0.mk hr2;have HC2:=Aside0.mk hc2;clear hr2 hc2;have HB:=Aside0.mk (Below.refl w.heap.size w);have H:=h;(rw[apply_check.f] at H);clear h;have HC4:=Aside0.mk H;clear H;go_enter Tryd.func70,Tryd.ntmps70
 go_upto_region 1 with (fail)
 go_cut [7] (fun v7 wc => ∃ (kq:Nat) (x7_3:Bool),v7 = .bool x7_3∧Aside0 (apply_check.j0 kq l0 x7_3=some r)∧Aside0 (kq≤k)∧Aside0 (Below w.heap.size w wc))
 case first =>
  have H:=HC4.out;clear HC4
  by_cases c5:a1 < 0
  ·
   (rw[if_pos c5] at H);have c5b0:decide (a1 < 0)=true:=decide_eq_true c5;clear c5;(first|rw[c5b0]|(simp only[i64_w,i32_w];rw[c5b0])|skip);have H':=Aside0.mk H;clear H;go_wp2
   go_meet
   (case rel=>exact⟨_,(true),rs_,H',⟨by first|omega|exact Nat.le_refl _⟩,⟨bel_⟩⟩)
  ·
   (rw[if_neg c5] at H);have c5b0:decide (a1 < 0)=false:=decide_eq_false c5;clear c5;(first|rw[c5b0]|(simp only[i64_w,i32_w];rw[c5b0])|skip)
   by_cases c6:(l0.length:Int) > 0
   ·
    (rw[if_pos c6] at H);have c6b0:decide (0 < (l0.length:Int))=true:=decide_eq_true c6;have c6b1:decide (0 < l0.length)=true:=decide_eq_true (by omega);clear c6
    by_cases c7:0 < (l0.length:Int)
    ·
     (rw[if_pos c7] at H);have c7b0:decide (0 < (l0.length:Int))=true:=decide_eq_true c7;have c7b1:decide (0 < l0.length)=true:=decide_eq_true (by omega);clear c7
     by_cases c8:a1 ≥ (((rd_T48 l0 0).f0).length:Int)
     ·
      (rw[if_pos c8] at H);have c8b0:decide ((((rd_T48 l0 0).f0).length:Int)≤a1)=true:=decide_eq_true c8;clear c8;have H':=Aside0.mk H;clear H;have p101:0≤(0:Int):=(by omega);have q101:0 < (l0.length:Int):=dt_;obtain⟨ad101,A101_0,c101_0,A101_3,c101_3,e101,hx101_0,hx101_1,hx101_2,hx101_3,hl101_0,hi101_0,hl101_3,hi101_3⟩:=at_T48 HR0.out 0 p101 q101;cases e101;have qi101:(0 < l0.length)=True:=eq_true (by omega);(try rw[show ((0:Int)).toNat=0 from rfl] at hx101_0);(try rw[show 0 * 4=0 from rfl] at hx101_0);(try rw[Addr.add_zero'] at hx101_0);(try rw[show ((0:Int)).toNat=0 from rfl] at hx101_1);(try rw[show 0 * 4=0 from rfl] at hx101_1);(try rw[Addr.add_zero'] at hx101_1);(try rw[show ((0:Int)).toNat=0 from rfl] at hx101_2);(try rw[show 0 * 4=0 from rfl] at hx101_2);(try rw[Addr.add_zero'] at hx101_2);(try rw[show ((0:Int)).toNat=0 from rfl] at hx101_3);(try rw[show 0 * 4=0 from rfl] at hx101_3);(try rw[Addr.add_zero'] at hx101_3);replace hx101_0:=(HB.out.cell (World.block_lt_of_cell? w _ hx101_0)).trans hx101_0;replace hx101_1:=(HB.out.cell (World.block_lt_of_cell? w _ hx101_1)).trans hx101_1;replace hx101_2:=(HB.out.cell (World.block_lt_of_cell? w _ hx101_2)).trans hx101_2;replace hx101_3:=(HB.out.cell (World.block_lt_of_cell? w _ hx101_3)).trans hx101_3;have HR101_0:=Aside0.mk hi101_0;have HC101_0:=Aside0.mk hl101_0;clear hi101_0 hl101_0;have HR101_3:=Aside0.mk hi101_3;have HC101_3:=Aside0.mk hl101_3;clear hi101_3 hl101_3;replace p101:=eq_true p101;replace q101:=eq_true q101;go_wp2
      go_meet
      (case rel=>exact⟨_,(true),rs_,H',⟨by first|omega|exact Nat.le_refl _⟩,⟨bel_⟩⟩)
     ·
      (rw[if_neg c8] at H);have c8b0:decide ((((rd_T48 l0 0).f0).length:Int)≤a1)=false:=decide_eq_false c8;clear c8;replace H:=Option.bind_eq_some_iff.mp H;obtain⟨t102,A90,H⟩:=H;(try dsimp only at H);have A9:=Aside0.mk A90;clear A90;have H':=Aside0.mk H;clear H;have p101:0≤(0:Int):=(by omega);have q101:0 < (l0.length:Int):=dt_;obtain⟨ad101,A101_0,c101_0,A101_3,c101_3,e101,hx101_0,hx101_1,hx101_2,hx101_3,hl101_0,hi101_0,hl101_3,hi101_3⟩:=at_T48 HR0.out 0 p101 q101;cases e101;have qi101:(0 < l0.length)=True:=eq_true (by omega);(try rw[show ((0:Int)).toNat=0 from rfl] at hx101_0);(try rw[show 0 * 4=0 from rfl] at hx101_0);(try rw[Addr.add_zero'] at hx101_0);(try rw[show ((0:Int)).toNat=0 from rfl] at hx101_1);(try rw[show 0 * 4=0 from rfl] at hx101_1);(try rw[Addr.add_zero'] at hx101_1);(try rw[show ((0:Int)).toNat=0 from rfl] at hx101_2);(try rw[show 0 * 4=0 from rfl] at hx101_2);(try rw[Addr.add_zero'] at hx101_2);(try rw[show ((0:Int)).toNat=0 from rfl] at hx101_3);(try rw[show 0 * 4=0 from rfl] at hx101_3);(try rw[Addr.add_zero'] at hx101_3);replace hx101_0:=(HB.out.cell (World.block_lt_of_cell? w _ hx101_0)).trans hx101_0;replace hx101_1:=(HB.out.cell (World.block_lt_of_cell? w _ hx101_1)).trans hx101_1;replace hx101_2:=(HB.out.cell (World.block_lt_of_cell? w _ hx101_2)).trans hx101_2;replace hx101_3:=(HB.out.cell (World.block_lt_of_cell? w _ hx101_3)).trans hx101_3;have HR101_0:=Aside0.mk hi101_0;have HC101_0:=Aside0.mk hl101_0;clear hi101_0 hl101_0;have HR101_3:=Aside0.mk hi101_3;have HC101_3:=Aside0.mk hl101_3;clear hi101_3 hl101_3;replace p101:=eq_true p101;replace q101:=eq_true q101;(go_wp2_with (first|(go_at_call 65;(with_reducible refine(lines_May.calls k _ _ l2 t102 _ ?side1 ?side2 A9.out).mono ?_);(case side1=>repeat(first|exact(Kd.C_below HR2.out HB.out)|(with_reducible refine Kd.C_alloc ?_ _)|(with_reducible refine Kd.C_drewN ?_ _)|(with_reducible refine Kd.C_drew ?_)));(case side2=>exact HC2.out);rintro e w' ⟨rfl,⟨nd,rfl⟩⟩)))
      go_meet
      (case rel=>exact⟨_,(!t102),rs_,H',⟨by first|omega|exact Nat.le_refl _⟩,⟨bel_⟩⟩)
    (· exact nx_ c7 H)
   ·
    (rw[if_neg c6] at H);have c6b0:decide (0 < (l0.length:Int))=false:=decide_eq_false c6;have c6b1:decide (0 < l0.length)=false:=decide_eq_false (by omega);clear c6;replace H:=Option.bind_eq_some_iff.mp H;obtain⟨t103,A100,H⟩:=H;(try dsimp only at H);have A10:=Aside0.mk A100;clear A100;have H':=Aside0.mk H;clear H;(go_wp2_with (first|(go_at_call 65;(with_reducible refine(lines_May.calls k _ _ l2 t103 _ ?side1 ?side2 A10.out).mono ?_);(case side1=>repeat(first|exact(Kd.C_below HR2.out HB.out)|(with_reducible refine Kd.C_alloc ?_ _)|(with_reducible refine Kd.C_drewN ?_ _)|(with_reducible refine Kd.C_drew ?_)));(case side2=>exact HC2.out);rintro e w' ⟨rfl,⟨nd,rfl⟩⟩)))
    go_meet
    (case rel=>exact⟨_,(!t103),rs_,H',⟨by first|omega|exact Nat.le_refl _⟩,⟨bel_⟩⟩)
 case rest =>
  clear HC4;(try clear c1);(try clear p1);(try clear q1);(try clear hx1);(try clear qi1);(try clear c2);(try clear p2);(try clear c5);(try clear c5b0);(try clear c6);(try clear c6b0);(try clear c6b1);(try clear c7);(try clear c7b0);(try clear c7b1);(try clear c8);(try clear c8b0);(try clear c10);(try clear p10);(try clear q10);(try clear hx10);(try clear qi10);(try clear hx101_0);(try clear hx101_1);(try clear hx101_2);(try clear hx101_3);(try clear p101);(try clear q101);obtain⟨kq,x7_3,rfl,HA,HJ3,HB⟩:=hcut
  cases kq with
  | zero=>exact absurd HA.out (by simp[apply_check.j0])
  | succ kj3 =>
   have H:=HA.out;clear HA;(simp only[apply_check.j0] at H)
   by_cases c11:x7_3=true
   (· subst c11;have H1:=H;(rw[if_pos rfl] at H1);clear H;have H:=H1;clear H1;obtain rfl:=Option.some.inj H;go_wp2;go_ret;exact⟨by first|rfl|(simp[errW_none,errW_some] <;> rfl)|(simp[*,errW_none,errW_some] <;> rfl),bel_⟩)
   ·
    replace c11:=Bool.eq_false_iff.mpr c11;subst c11;have H1:=H;(rw[if_neg (show ¬ (false=true) by decide)] at H1);clear H;have H:=H1;clear H1;replace H:=Option.bind_eq_some_iff.mp H;obtain⟨t104,A120,H⟩:=H;(try dsimp only at H);have A12:=Aside0.mk A120;clear A120
    by_cases c13:t104=true
    (· subst c13;have H1:=H;(rw[if_pos rfl] at H1);clear H;have H:=H1;clear H1;obtain rfl:=Option.some.inj H;(go_wp2_with (first|((with_reducible refine gate_callee (f:=95) rfl ?_);refine goesL_ (some 31) rfl rfl Tryd.func95 (by kernel_rfl) rfl #[.slice A0 l0.length c0] rfl am_ ?_;(with_reducible refine(patch_May.calls kj3 _ _ l0 true _ ?side1 ?side2 A12.out).mono ?_);(case side1=>repeat(first|exact(Kd.C_below HR0.out HB.out)|(with_reducible refine Kd.C_alloc ?_ _)|(with_reducible refine Kd.C_drewN ?_ _)|(with_reducible refine Kd.C_drew ?_)));(case side2=>exact HC0.out);rintro e w14 ⟨rfl,hb⟩;refine⟨_,rfl,?_⟩;replace HB:=Aside0.mk (below_step bel_ hb);(try clear hb);(try clear hb2);(try clear hk);(try clear hi))));go_ret;exact⟨by first|rfl|(simp[errW_none,errW_some] <;> rfl)|(simp[*,errW_none,errW_some] <;> rfl),bel_⟩);(· replace c13:=Bool.eq_false_iff.mpr c13;subst c13;have H1:=H;(rw[if_neg (show ¬ (false=true) by decide)] at H1);clear H;have H:=H1;clear H1;obtain rfl:=Option.some.inj H;(go_wp2_with (first|((with_reducible refine gate_callee (f:=95) rfl ?_);refine goesL_ (some 31) rfl rfl Tryd.func95 (by kernel_rfl) rfl #[.slice A0 l0.length c0] rfl am_ ?_;(with_reducible refine(patch_May.calls kj3 _ _ l0 false _ ?side1 ?side2 A12.out).mono ?_);(case side1=>repeat(first|exact(Kd.C_below HR0.out HB.out)|(with_reducible refine Kd.C_alloc ?_ _)|(with_reducible refine Kd.C_drewN ?_ _)|(with_reducible refine Kd.C_drew ?_)));(case side2=>exact HC0.out);rintro e w15 ⟨rfl,hb⟩;refine⟨_,rfl,?_⟩;replace HB:=Aside0.mk (below_step bel_ hb);(try clear hb);(try clear hb2);(try clear hk);(try clear hi))));go_ret;exact⟨by first|rfl|(simp[errW_none,errW_some] <;> rfl)|(simp[*,errW_none,errW_some] <;> rfl),bel_⟩)
end Go.Proofs.YthcnfflhejogfaaDoor.X
namespace Go.Proofs.YthcnfflhejogfaaDoor.X
open Go.RowKit Go.Proofs.YthcnfflhejogfaaDoorW.PrintWords Go.Proofs.YthcnfflhejogfaaDoorW.PrintLast Go.Proofs.YthcnfflhejogfaaDoorW.PrintMore
def MaxAt (w:World):Prop:=0 < w.heap.size ∧ ∃ m:Int,w.cell? ⟨0,0,none⟩=some (.int .i64 m)
theorem MaxAt.below {w W:World} {B:Nat} (h:MaxAt w) (hb:Below B w W) (hB:0 < B):MaxAt W:=by
 obtain⟨h0,m,hm⟩:=h;exact⟨Nat.lt_of_lt_of_le h0 hb.size,m,by rw[hb.cell (p:=⟨0,0,none⟩) hB];exact hm⟩
theorem MaxAt.step {w W:World} (h:MaxAt w) (hb:Below w.heap.size w W):MaxAt W:=h.below hb h.1
theorem MaxAt.alloc {w:World} (h:MaxAt w) (o:Obj):MaxAt (w.alloc o):=h.step ((Below.refl _ w).alloc (Nat.le_refl _) o)
theorem MaxAt.drew {w:World} (h:MaxAt w):MaxAt w.drew:=h.step (Below.refl _ w).drew
def colsOf (s:ByteArray):ByteArray:=⟨(Lib.replaceAll s.data.toList [45] [43]).toArray⟩
section
variable {α:Type} {p:α→Bool} {L:List α}
end
abbrev Row57:=S57
def otherB (first:ByteArray) (x:Row57):Bool := !decide (colsOf x.f0=first)
def hasB (s:ByteArray) (c:UInt8):Bool:=decide (0≤Lib.indexByte s.data.toList c)
def dullB:List Row57→Bool
  | []=>false
  | r :: l=>(hasB (colsOf r.f0) 43 && hasB (colsOf r.f0) 32) && !((r :: l).any (otherB (colsOf r.f0)))
def oneB (q:Bool):Int:=if q=true then 1 else 0
def passL (s:ByteArray) (olds:List Int):List Int:=olds.mapIdx fun i n=>n+oneB (ofB (i:Int) s)
theorem passL_len (s:ByteArray) (olds:List Int):(passL s olds).length=olds.length:=by rw[passL,List.length_mapIdx]
theorem passL_get (s:ByteArray) (olds:List Int) {i:Nat} (h:i < olds.length):(passL s olds).getD i 0=olds.getD i 0+oneB (ofB (i:Int) s):=by
 (have h2:i < (passL s olds).length:=by rw[passL_len];exact h);rw[getD_get h2,getD_get h];simp[passL]
def CtAt (W:World) (g go:Nat) (olds:List Int) (n:Int):Prop :=
  W.heap[g]? = some (.cells #[.slice (some ⟨go,0,none⟩) olds.length olds.length, .int .i64 n] 90 (0,0))∧W.heap[go]? = some (.cells (olds.map (Value.int .i64)).toArray 3 (0,0))
def SameRest (W W':World):Prop:=W'.os=W.os∧W'.tape=W.tape∧W'.output=W.output
theorem SameRest.trans {W W1 W2:World} (h:SameRest W W1) (k:SameRest W1 W2):SameRest W W2:=⟨k.1.trans h.1,k.2.1.trans h.2.1,k.2.2.trans h.2.2⟩
structure Keeps2 (g go:Nat) (W W':World):Prop where
  size:W.heap.size≤W'.heap.size
  block : ∀ k,k < W.heap.size→k≠g→k≠go→W'.heap[k]? = W.heap[k]?
  rest:SameRest W W'
theorem Keeps2.refl (g go:Nat) (W:World):Keeps2 g go W W:=⟨Nat.le_refl _,fun _ _ _ _=>rfl,rfl,rfl,rfl⟩
theorem Keeps2.below {g go:Nat} {W W1 W2:World} (h:Keeps2 g go W W1) (hb:Below W1.heap.size W1 W2):Keeps2 g go W W2:=⟨Nat.le_trans h.1 hb.size,fun k hk h1 h2=>(hb.block k (by have:=h.1;omega)).trans (h.2 k hk h1 h2),h.3.trans ⟨hb.os,hb.tape,hb.output⟩⟩
theorem Keeps2.set {g go:Nat} {W W1:World} (h:Keeps2 g go W W1) {b:Nat} (hb:b=g∨b=go) (j:Nat) (v:Value):Keeps2 g go W (W1.setCell ⟨b,j,none⟩ v) :=
  ⟨by simpa [World.setCell] using h.1,fun k hk a c=>(heap_set_other (by rcases hb with rfl|rfl <;> assumption) _).trans (h.2 k hk a c),h.3.trans ⟨rfl,rfl,rfl⟩⟩
def PassI (w W:World) (g go:Nat) (s:ByteArray) (olds:List Int) (n:Int) (i:Nat):Prop :=
  Keeps2 g go w W∧CtAt W g go ((passL s olds).take i ++ olds.drop i) n
section
variable {w W W':World} {g go i:Nat} {s:ByteArray} {olds:List Int} {n:Int}
theorem CtAt.below (h:CtAt W g go olds n) (hb:Below W.heap.size W W'):CtAt W' g go olds n:=⟨farKeep h.1 hb,farKeep h.2 hb⟩
theorem PassI.below (h:PassI w W g go s olds n i) (hb:Below W.heap.size W W'):PassI w W' g go s olds n i:=⟨h.1.below hb,h.2.below hb⟩
end
abbrev Span45:=S45
def passR (rows:List Row57) (olds:List Int):List Int:=rows.foldl (fun o x=>passL x.f0 o) olds
def passN (rows:List Row57) (n:Int):Int:=rows.foldl (fun m x=>m+oneB (!lostB x.f0)) n
def spansH (olds olds':List Int):List Span45:=List.zipWith (fun a b=>(⟨a,b⟩:Span45)) olds olds'
def HunkI (w W:World) (g go:Nat) (olds:List Int) (n:Int) (m:Int) (vr:Value) (v:Value) (l:List Span45):Prop :=
  Keeps2 g go w W∧CtAt W g go olds m∧W.heap[w.heap.size]? = some (.cells #[.slice none 0 0, .int .i64 0, .int .i64 0, .slice none 0 0] 48 (0,0)) ∧
    W.heap[w.heap.size+1]? = some (.cells #[v, .int .i64 n, .int .i64 0,vr] 48 (0,0))∧Kd.R k45 45 W w.heap.size (fun _=>True) v l
theorem HunkI.below {w W W':World} {g go:Nat} {olds:List Int} {n m:Int} {vr v:Value} {l:List Span45} (h:HunkI w W g go olds n m vr v l) (hb:Below W.heap.size W W'):HunkI w W' g go olds n m vr v l:=by
 obtain⟨h1,h2,h3,h4,h5⟩:=h;exact⟨h1.below hb,h2.below hb,farKeep h3 hb,farKeep h4 hb,Kd.R_below h5 hb⟩
theorem passR_len : ∀ (rows:List Row57) (olds:List Int),(passR rows olds).length=olds.length
 | [],olds=>rfl
 | x :: rows,olds=>by
  show (passR rows (passL x.f0 olds)).length=_;rw[passR_len rows,passL_len]
theorem Keeps2.trans {g go:Nat} {W W1 W2:World} (h:Keeps2 g go W W1) (k:Keeps2 g go W1 W2):Keeps2 g go W W2:=⟨Nat.le_trans h.1 k.1,fun j hj a b=>(k.2 j (Nat.lt_of_lt_of_le hj h.1) a b).trans (h.2 j hj a b),h.3.trans k.3⟩
def HunkJ (w W:World) (g go:Nat) (olds:List Int) (n m:Int) (vr v:Value) (l:List Span45):Prop :=
  Keeps2 g go w W∧CtAt W g go olds m∧W.heap[w.heap.size]? = some (.cells #[.slice none 0 0, .int .i64 0, .int .i64 0, .slice none 0 0] 48 (0,0)) ∧
    W.heap[w.heap.size+1]? = some (.cells #[v, .int .i64 n, .int .i64 m,vr] 48 (0,0))∧Kd.R k45 45 W w.heap.size (fun _=>True) v l
theorem HunkJ.put {w W W2:World} {g go gs:Nat} {olds:List Int} {n m:Int} {vr v:Value} {l l2:List Span45} (h:HunkJ w W g go olds n m vr v l) (hv:v.ownBlock=some gs) (hr:Kd.R k45 45 W2 w.heap.size (fun _=>True) v l2) (hg2:W.grownBy W2 (some gs)) (hg:g < w.heap.size) (hgo:go < w.heap.size):HunkJ w W2 g go olds n m vr v l2:=by
 obtain⟨h1,h2,h3,h4,h5⟩:=h;(rw[← hv] at hg2);refine⟨⟨?_,fun k hk a b=>?_,h1.3.trans ⟨hg2.os,hg2.tape,hg2.output⟩⟩,⟨(hg2.block _ (Array.getElem?_eq_some_iff.1 h2.1).1 (Kd.R_ne h5 h2.1 (by decide))).trans h2.1,(hg2.block _ (Array.getElem?_eq_some_iff.1 h2.2).1 (Kd.R_ne h5 h2.2 (by decide))).trans h2.2⟩,(hg2.block _ (Array.getElem?_eq_some_iff.1 h3).1 (Kd.R_ne h5 h3 (by decide))).trans h3,(hg2.block _ (Array.getElem?_eq_some_iff.1 h4).1 (Kd.R_ne h5 h4 (by decide))).trans h4,hr⟩;(· (have:=hg2.size;have:=h1.1;omega));(· refine(hg2.block k (Nat.lt_of_lt_of_le hk h1.1) (fun e=>?_)).trans (h1.2 k hk a b);have:=Kd.R_base h5 k e.symm;omega)
def set4 (W:World) (g:Nat) (a b c d:Value):World:=(((W.setCell ⟨g,0,none⟩ a).setCell ⟨g,1,none⟩ b).setCell ⟨g,2,none⟩ c).setCell ⟨g,3,none⟩ d
theorem set4_same {W:World} {g:Nat} {t:TypeId} {a b c d a' b' c' d':Value} (h:W.heap[g]? = some (.cells #[a,b,c,d] t (0,0))):(set4 W g a' b' c' d').heap[g]? = some (.cells #[a',b',c',d'] t (0,0)) :=
  heap_set_same (heap_set_same (heap_set_same (heap_set_same h _) _) _) _
theorem set4_other {W:World} {g k:Nat} {a b c d:Value} (h:k≠g):(set4 W g a b c d).heap[k]? = W.heap[k]? := by
 rw[set4,heap_set_other h,heap_set_other h,heap_set_other h,heap_set_other h]
def markB (x:Row57):Bool:=((⟨(Lib.trimS x.f0.data.toList [32]).toArray⟩:ByteArray).toList != ([]:List UInt8))
def groupEnd (rows:List Row57) (i:Nat):Nat:=i+((rows.drop i).takeWhile markB).length
theorem groupEnd_step {rows:List Row57} {i:Nat} (h:i < rows.length) (hm:markB rows[i]=true):groupEnd rows i=groupEnd rows (i+1):=by
 (rw[groupEnd,groupEnd,dropCons h,List.takeWhile_cons,if_pos hm,List.length_cons];omega)
theorem groupEnd_stop {rows:List Row57} {i:Nat} (h:i < rows.length) (hm:markB rows[i]=false):groupEnd rows i=i:=by
 (rw[groupEnd,dropCons h,List.takeWhile_cons,if_neg (by rw[hm];decide)];rfl)
def groupsGo (rows:List Row57):Nat→Nat→List Span45
  | 0,_=>[]
  | r+1,i=>if h:i < rows.length then (if markB rows[i]=true then ⟨(i:Int),(groupEnd rows i:Int)⟩ :: groupsGo rows r (groupEnd rows i) else groupsGo rows r (i+1)) else []
theorem dropWhile_nil {α:Type} {p:α→Bool} : ∀ {l:List α},l.dropWhile p=[] ↔ ∀ b ∈ l,p b=true
 | []=>by simp
 | a :: l=>by
  rw[List.dropWhile_cons];split;(· (rename_i h;rw[dropWhile_nil];simp[h]));(· (rename_i h;simp[h]))
theorem trim_nil (l cs:List UInt8):Lib.trimS l cs=[] ↔ ∀ b ∈ l,cs.contains b=true:=by
 rw[Lib.trimS,Lib.trimLeftS,dropWhile_nil,Lib.trimRightS];constructor
 ·
  intro h b hb;have hb:b ∈ l.reverse:=List.mem_reverse.2 hb;(rw[← List.takeWhile_append_dropWhile (p:=fun x=>cs.contains x) (l:=l.reverse)] at hb)
  rcases List.mem_append.1 hb with h1|h1
  (· exact List.all_eq_true.1 (List.all_takeWhile (p:=fun x=>cs.contains x) (l:=l.reverse)) b h1);(· exact h b (List.mem_reverse.2 h1))
 (· intro h b hb;have hb:=List.mem_reverse.1 hb;exact h b (List.mem_reverse.1 ((List.dropWhile_sublist _).subset hb)))
theorem baToList (l:List UInt8):(⟨l.toArray⟩:ByteArray).toList=l:=by rw[Lib.toList_data]
theorem getD_set {l:List Bool} {i j:Nat} (hi:i < l.length):(l.set i true).getD j false=true↔(j=i∨l.getD j false=true):=by
 by_cases e:i=j
 (· subst e;simp[hi]);(· simp[List.getD_eq_getElem?_getD,List.getElem?_set,e];intro h;exact absurd h.symm e)
def okC (c:UInt8):Bool:=c == 32 || (c == 43 || c == 45)
def hasC (s:ByteArray) (c:UInt8):Bool:=s.data.toList.any (· == c)
def mayRow (n:Nat) (x:RowH):Bool:=x.f0.data.toList.all okC && (decide (x.f0.size=n) && (!(hasC x.f0 43 && hasC x.f0 45) && mayL [x.f1]))
def mayB (rows:List RowH):Bool:=rows.all (fun x=>decide (1≤(rd_T57 rows 0).f0.size∧(rd_T57 rows 0).f0.size≤16) && mayRow (rd_T57 rows 0).f0.size x)
def LowT (rows:List RowH):Prop := ∀ x ∈ rows,x.f1.size≤1000000
theorem hasB_eq (s:ByteArray) (c:UInt8):hasB s c=hasC s c:=by
 rw[hasB,hasC,Bool.eq_iff_iff,decide_eq_true_eq,List.any_eq_true];constructor;(· intro h;obtain⟨o,ho⟩ : ∃ o:Nat,Lib.indexByte s.data.toList c=o:=⟨(Lib.indexByte s.data.toList c).toNat,by omega⟩;exact⟨c,List.mem_of_getElem? (Lib.indexByte_some ho).1,beq_self_eq_true c⟩)
 ·
  rintro⟨b,hb,he⟩;have he:=eq_of_beq he;subst he;have h1:=Lib.indexByte_ge s.data.toList b
  by_cases h2:Lib.indexByte s.data.toList b = -1
  (· obtain⟨k,hk,e⟩:=List.mem_iff_getElem.1 hb;exact(Lib.indexByte_none h2 k (by rw[List.getElem?_eq_getElem hk,e])).elim);(· omega)
theorem ref_mayRow (n:Nat) (hn:n≤1000000) (s t:ByteArray) (h:s.size≤1000000) (ht:t.size≤1000000):Gives (fun k=>sennitref21_may.f k s t (n:Int)) (s.data.toList.all okC && (decide (s.size=n) && (!(hasC s 43 && hasC s 45) && mayL [t]))):=by
 have hmay:=ref_May01 [t] (by simp) (by simpa using ht)
 have hl : ∀ (r i:Nat) (p q:Bool),i+r=s.size→Gives (fun k=>sennitref21_may.l0 k (n:Int) p q (i:Int) s t) ((s.data.toList.drop i).all okC && (decide (s.size=n) && (!((p || (s.data.toList.drop i).any (· == 43)) && (q || (s.data.toList.drop i).any (· == 45))) && mayL [t]))):=by
  intro r
  induction r with
  | zero =>
   intro i p q hi;rw[List.drop_of_length_le (by rw[← sizeLen];omega)];simp only[List.all_nil,List.any_nil,Bool.or_false,Bool.true_and]
   by_cases e:s.size=n
   ·
    rw[decide_eq_true e,Bool.true_and]
    cases p with
    | false =>
     simp only[Bool.false_and,Bool.not_false,Bool.true_and];(refine Gives.last hmay fun k hk=>?_);show sennitref21_may.l0 (k+1) (n:Int) false q (i:Int) s t=_;(rw[sennitref21_may.l0,if_neg (by omega),if_pos (by omega),if_neg (by decide),hk];rfl)
    | true =>
     cases q with
     | false =>
      simp only[Bool.and_false,Bool.not_false,Bool.true_and];(refine Gives.last hmay fun k hk=>?_);show sennitref21_may.l0 (k+1) (n:Int) true false (i:Int) s t=_;(rw[sennitref21_may.l0,if_neg (by omega),if_pos (by omega),if_pos rfl,if_neg (by decide),hk];rfl)
     | true =>
      (refine Gives.of fun k=>?_);show sennitref21_may.l0 (k+1) (n:Int) true true (i:Int) s t=_;(rw[sennitref21_may.l0,if_neg (by omega),if_pos (by omega),if_pos rfl,if_pos rfl];rfl)
   (· rw[decide_eq_false e,Bool.false_and];(refine Gives.of fun k=>?_);show sennitref21_may.l0 (k+1) (n:Int) p q (i:Int) s t=_;rw[sennitref21_may.l0,if_neg (by omega),if_neg (by omega)])
  | succ r ih =>
   intro i p q hi;(have hs:i < s.size:=by omega);(have hil:i < s.data.toList.length:=by rw[← sizeLen];omega);rw[dropCons hil,List.all_cons,List.any_cons,List.any_cons];obtain⟨c,hc⟩ : ∃ c,s.data.toList[i]=c:=⟨_,rfl⟩;(have b0:bt s (i:Int)=(c.toNat:Int):=by rw[btN hs];rw[hc]);rw[hc];(have hlt:((i:Int) < (s.size:Int)):=by omega);(have h0:(0:Int)≤(i:Int):=by omega)
   by_cases e1:c=32
   (· subst e1;have b1:bt s (i:Int)=32:=b0;(refine((ih (i+1) p q (by omega)).eq (by simp[okC])).step fun k=>?_);show sennitref21_may.l0 (k+1) (n:Int) p q (i:Int) s t=_;rw[sennitref21_may.l0,if_pos hlt,if_pos h0,b1,gw1 (by omega)];(cases p <;> cases q <;> simp))
   ·
    by_cases e2:c=43
    (· subst e2;have b1:bt s (i:Int)=43:=b0;(refine((ih (i+1) true q (by omega)).eq (by simp[okC])).step fun k=>?_);show sennitref21_may.l0 (k+1) (n:Int) p q (i:Int) s t=_;rw[sennitref21_may.l0,if_pos hlt,if_pos h0,b1,gw1 (by omega)];(cases p <;> cases q <;> simp))
    ·
     by_cases e3:c=45
     (· subst e3;have b1:bt s (i:Int)=45:=b0;(refine((ih (i+1) p true (by omega)).eq (by simp[okC])).step fun k=>?_);show sennitref21_may.l0 (k+1) (n:Int) p q (i:Int) s t=_;rw[sennitref21_may.l0,if_pos hlt,if_pos h0,b1,gw1 (by omega)];(cases p <;> cases q <;> simp));(· (have n1 : ¬ bt s (i:Int)=32:=fun h=>e1 (UInt8.toNat_inj.1 (by rw[b0] at h;show c.toNat=32;omega)));(have n2 : ¬ bt s (i:Int)=43:=fun h=>e2 (UInt8.toNat_inj.1 (by rw[b0] at h;show c.toNat=43;omega)));(have n3 : ¬ bt s (i:Int)=45:=fun h=>e3 (UInt8.toNat_inj.1 (by rw[b0] at h;show c.toNat=45;omega)));(have eo:okC c=false:=by simp[okC,e1,e2,e3]);rw[eo];(refine Gives.of fun k=>?_);show sennitref21_may.l0 (k+1) (n:Int) p q (i:Int) s t=_;rw[sennitref21_may.l0,if_pos hlt,if_pos h0];(cases p <;> cases q <;> simp[n1,n2,n3]))
 (exact(hl s.size 0 false false (by omega)).same fun k=>rfl)
theorem ref_MayH {rows:List RowH} (hz:Low rows) (ht:LowT rows) (hl:rows.length≤1000000):Gives (fun k=>sennitref21_May.f k rows) (mayB rows):=by
 obtain⟨n,hn⟩ : ∃ n,(rd_T57 rows 0).f0.size=n:=⟨_,rfl⟩
 have key : ∀ (r i:Nat),i+r=rows.length→Gives (fun k=>sennitref21_May.l0 k rows (i:Int)) ((rows.drop i).all (fun x=>decide (1≤n∧n≤16) && mayRow n x)):=by
  intro r
  induction r with
  | zero =>
   intro i hi;rw[List.drop_of_length_le (by omega)];(refine Gives.of fun k=>?_);show sennitref21_May.l0 (k+1) rows (i:Int)=_;(rw[sennitref21_May.l0,if_neg (by omega)];rfl)
  | succ r ih =>
   intro i hi;(have hil:i < rows.length:=by omega);rw[dropCons hil,List.all_cons]
   by_cases h1:n < 1
   (· rw[decide_eq_false (show ¬ (1≤n∧n≤16) by omega),Bool.false_and,Bool.false_and];(refine Gives.of fun k=>?_);show sennitref21_May.l0 (k+1) rows (i:Int)=_;rw[sennitref21_May.l0,if_pos (by omega),if_pos (by omega),hn,if_pos (by omega)])
   ·
    by_cases h2:16 < n
    (· rw[decide_eq_false (show ¬ (1≤n∧n≤16) by omega),Bool.false_and,Bool.false_and];(refine Gives.of fun k=>?_);show sennitref21_May.l0 (k+1) rows (i:Int)=_;rw[sennitref21_May.l0,if_pos (by omega),if_pos (by omega),hn,if_neg (by omega),if_pos (by omega)])
    ·
     rw[decide_eq_true (show (1≤n∧n≤16) by omega),Bool.true_and];have hm:=ref_mayRow n (by omega) rows[i].f0 rows[i].f1 (hz _ (List.getElem_mem hil)) (ht _ (List.getElem_mem hil))
     cases e:mayRow n rows[i] with
     | false =>
      (rw[show (rows[i].f0.data.toList.all okC && (decide (rows[i].f0.size=n) && (!(hasC rows[i].f0 43 && hasC rows[i].f0 45) && mayL [rows[i].f1])))=false from e] at hm);(refine Gives.last hm fun k hk=>?_);show sennitref21_May.l0 (k+1) rows (i:Int)=_;(rw[sennitref21_May.l0,if_pos (by omega),if_pos (by omega),hn,if_neg (by omega),if_neg (by omega),if_pos (by omega),rdH hil,hk];rfl)
     | true =>
      (rw[show (rows[i].f0.data.toList.all okC && (decide (rows[i].f0.size=n) && (!(hasC rows[i].f0 43 && hasC rows[i].f0 45) && mayL [rows[i].f1])))=true from e] at hm);rw[Bool.true_and];have ih':=ih (i+1) (by omega);(rw[decide_eq_true (show (1≤n∧n≤16) by omega)] at ih');(refine Gives.call hm ih' fun k hk=>?_);show sennitref21_May.l0 (k+1) rows (i:Int)=_;rw[sennitref21_May.l0,if_pos (by omega),if_pos (by omega),hn,if_neg (by omega),if_neg (by omega),if_pos (by omega),rdH hil,hk,Option.bind_some,if_pos rfl,gw1 (by omega)]
 (refine((key rows.length 0 (by omega)).eq ?_).same fun k=>rfl);(rw[mayB,hn];rfl)
theorem trim_chars (s:ByteArray):(⟨(Lib.trimS s.data.toList [32,43,45]).toArray⟩:ByteArray).toList=[]↔s.data.toList.all okC=true:=by
 rw[baToList,trim_nil,List.all_eq_true];constructor;(· intro h b hb;have:=h b hb;(simp at this);(simp[okC];exact this));(· intro h b hb;have:=h b hb;(simp[okC] at this);(simp;exact this))
theorem may_Hunk {rows:List RowH} (hz:Low rows) (ht:LowT rows) (hl:rows.length≤1000000):Gives (fun k=>hunk_May.f k rows) (mayB rows):=by
 obtain⟨n,hn⟩ : ∃ n,(rd_T57 rows 0).f0.size=n:=⟨_,rfl⟩
 have key : ∀ (r i:Nat),i+r=rows.length→Gives (fun k=>hunk_May.l0 k rows rows (rows.length:Int) (i:Int)) ((rows.drop i).all (fun x=>decide (1≤n∧n≤16) && mayRow n x)):=by
  intro r
  induction r with
  | zero =>
   intro i hi;rw[List.drop_of_length_le (by omega)];(refine Gives.of fun k=>?_);show hunk_May.l0 (k+1) rows rows (rows.length:Int) (i:Int)=_;(rw[hunk_May.l0,if_neg (by omega)];rfl)
  | succ r ih =>
   intro i hi;(have hil:i < rows.length:=by omega);have hzi:=hz _ (List.getElem_mem hil);have hmay:=may_gives [rows[i].f1] (by simp) (by have:=ht _ (List.getElem_mem hil);simp;omega);have hnx:=ih (i+1) (by omega);rw[dropCons hil,List.all_cons,mayRow];obtain⟨x,hx⟩ : ∃ x,rows[i]=x:=⟨_,rfl⟩;(have hrd:rd_T57 rows (i:Int)=x:=by rw[rdH hil,hx]);(rw[hx] at hzi hmay);rw[hx];(have ec1:strings_Contains.f x.f0 (⟨#[43]⟩:ByteArray)=some (hasC x.f0 43):=by rw[← hasB_eq];rfl);(have ec2:strings_Contains.f x.f0 (⟨#[45]⟩:ByteArray)=some (hasC x.f0 45):=by rw[← hasB_eq];rfl)
   have et:strings_Trim.f x.f0 (⟨#[32,43,45]⟩:ByteArray)=some ⟨(Lib.trimS x.f0.data.toList [32,43,45]).toArray⟩:=by
    rw[strings_Trim.f,if_pos ⟨by omega,by decide,by decide⟩]
   have htc:=trim_chars x.f0;obtain⟨tr,htr⟩ : ∃ tr,(⟨(Lib.trimS x.f0.data.toList [32,43,45]).toArray⟩:ByteArray)=tr:=⟨_,rfl⟩;(rw[htr] at et htc);obtain⟨p,hp⟩ : ∃ p,hasC x.f0 43=p:=⟨_,rfl⟩;obtain⟨q,hq⟩ : ∃ q,hasC x.f0 45=q:=⟨_,rfl⟩;(rw[hp] at ec1);(rw[hq] at ec2);rw[hp,hq]
   have e0 : ∀ k,hunk_May.l0 (k+1) rows rows (rows.length:Int) (i:Int) =
    if (x.f0.size:Int)=(n:Int) then (if (x.f0.size:Int) < 1 then some false else if (x.f0.size:Int) > 16 then some false else if tr.toList=[] then (if (p && q)=true then some false else (lines_May.f k [x.f1]).bind fun t=>if t=true then hunk_May.l0 k rows rows (rows.length:Int) ((i+1:Nat):Int) else some false) else some false) else some false:=fun k=>by
    rw[hunk_May.l0,if_pos (by omega),if_pos (by omega),if_pos (by omega),hrd,et,Option.bind_some,ec1,Option.bind_some,ec2,hn,gw1 (by omega)]
    cases p with
    | true =>
     rw[if_pos rfl,Option.bind_some,if_pos (by omega)];(cases q <;> rfl)
    | false =>
     rw[if_neg (by decide),if_pos (by omega)];rfl
   by_cases h1:x.f0.size=n
   ·
    by_cases h2:x.f0.size < 1
    ·
     refine(Gives.of (r:=false) fun k=>?_).eq ?_;(· show hunk_May.l0 (k+1) rows rows (rows.length:Int) (i:Int)=_;rw[e0,if_pos (by omega),if_pos (by omega)]);(· (rw[decide_eq_false (show ¬ (1≤n∧n≤16) by omega)];rfl))
    ·
     by_cases h3:16 < x.f0.size
     ·
      refine(Gives.of (r:=false) fun k=>?_).eq ?_;(· show hunk_May.l0 (k+1) rows rows (rows.length:Int) (i:Int)=_;rw[e0,if_pos (by omega),if_neg (by omega),if_pos (by omega)]);(· (rw[decide_eq_false (show ¬ (1≤n∧n≤16) by omega)];rfl))
     ·
      rw[decide_eq_true (show (1≤n∧n≤16) by omega),decide_eq_true h1,Bool.true_and,Bool.true_and]
      cases hc:x.f0.data.toList.all okC with
      | false =>
       rw[Bool.false_and,Bool.false_and];(refine Gives.of fun k=>?_);show hunk_May.l0 (k+1) rows rows (rows.length:Int) (i:Int)=_;rw[e0,if_pos (by omega),if_neg (by omega),if_neg (by omega),if_neg (fun h=>by rw[htc.1 h] at hc;cases hc)]
      | true =>
       rw[Bool.true_and]
       cases hpq:(p && q) with
       | true =>
        (refine Gives.of fun k=>?_);show hunk_May.l0 (k+1) rows rows (rows.length:Int) (i:Int)=_;(rw[e0,if_pos (by omega),if_neg (by omega),if_neg (by omega),if_pos (htc.2 hc),hpq,if_pos rfl];rfl)
       | false =>
        rw[Bool.not_false,Bool.true_and]
        cases hm:mayL [x.f1] with
        | false =>
         (rw[hm] at hmay);rw[Bool.false_and];(refine Gives.last hmay fun k hk=>?_);show hunk_May.l0 (k+1) rows rows (rows.length:Int) (i:Int)=_;(rw[e0,if_pos (by omega),if_neg (by omega),if_neg (by omega),if_pos (htc.2 hc),hpq,if_neg (by decide),hk];rfl)
        | true =>
         (rw[hm] at hmay);rw[Bool.true_and];(rw[decide_eq_true (show (1≤n∧n≤16) by omega)] at hnx);(refine Gives.call hmay hnx fun k hk=>?_);show hunk_May.l0 (k+1) rows rows (rows.length:Int) (i:Int)=_;rw[e0,if_pos (by omega),if_neg (by omega),if_neg (by omega),if_pos (htc.2 hc),hpq,if_neg (by decide),hk,Option.bind_some,if_pos rfl]
   ·
    refine(Gives.of (r:=false) fun k=>?_).eq ?_;(· show hunk_May.l0 (k+1) rows rows (rows.length:Int) (i:Int)=_;rw[e0,if_neg (by omega)]);(· rw[decide_eq_false h1,Bool.false_and,Bool.and_false,Bool.and_false,Bool.false_and])
 (refine((key rows.length 0 (by omega)).eq ?_).same fun k=>rfl);(rw[mayB,hn];rfl)
attribute [local go_sem] Oper.semAt_some
section
variable {F:Fence} {nF:Nat} {P:Program} {ops:Array Oper} {rest:List Oper} {o:Oper} {a:Act} {Q:Exit→Act→World→Prop}
end
theorem R_putObj {α:Type} {d:Kd α} {W:World} {e base r:Nat} {ok:Nat→Prop} {v:Value} {xs:List α} {o:Obj} (h:Kd.R d e W base ok v xs) (o':Obj) (hl:W.heap[r]? = some o) (ho:o.isCells=false):Kd.R d e (W.putObj r o') base ok v xs:=by
 refine Kd.R_mono (Kd.R_step (Kd.R_bound h) (fun k hk hlt=>?_)) (fun _ hk=>hk.1);refine(grownBy_putObj' W r o').block k hlt (fun e=>?_);cases e;obtain⟨_,_,_,q,hq,cells,hc⟩:=hk;(rw[hc] at hl);cases hl;cases ho
theorem putKeep {W:World} {r k:Nat} {o o':Obj} {cs:Array Value} {t:TypeId} {fr:Nat × Nat} (h:W.heap[k]? = some (.cells cs t fr)) (hl:W.heap[r]? = some o) (ho:o.isCells=false):(W.putObj r o').heap[k]? = some (.cells cs t fr):=by
 refine((grownBy_putObj' W r o').block k (blk_lt h) (fun e=>?_)).trans h;cases e;(rw[h] at hl);cases hl;cases ho
def GrI (w:World) (A:Option Addr) (n c:Nat) (s:List Span45) (W:World):Prop :=
  Below w.heap.size w W∧W.heap[w.heap.size+1]? = some (.cells #[.slice A n c] 36 (0,0)) ∧ ∃ v,W.heap[w.heap.size]? = some (.cells #[v] 46 (0,0))∧Kd.R k45 45 W w.heap.size (fun _=>True) v s
theorem GrI.below {w W W':World} {A:Option Addr} {n c:Nat} {s:List Span45} (h:GrI w A n c s W) (hb:Below W.heap.size W W'):GrI w A n c s W':=by
 obtain⟨h1,h2,v,h3,h4⟩:=h;exact⟨far_ h1 hb,farKeep h2 hb,v,farKeep h3 hb,Kd.R_below h4 hb⟩
theorem GrI.put {w W:World} {A:Option Addr} {n c:Nat} {s:List Span45} (h:GrI w A n c s W) {r:Nat} {o:Obj} (o':Obj) (hr:w.heap.size≤r) (hl:W.heap[r]? = some o) (ho:o.isCells=false):GrI w A n c s (W.putObj r o'):=by
 obtain⟨h1,h2,v,h3,h4⟩:=h;exact⟨h1.grown (grownBy_putObj' W r o') h1.size (fun k e=>by cases e;exact hr),putKeep h2 hl ho,v,putKeep h3 hl ho,R_putObj h4 o' hl ho⟩
end Go.Proofs.YthcnfflhejogfaaDoor.X
namespace Go.Proofs.YthcnfflhejogfaaDoor.X
open Go.RowKit Go.Proofs.YthcnfflhejogfaaDoorW.PrintWords Go.Proofs.YthcnfflhejogfaaDoorW.PrintLast Go.Proofs.YthcnfflhejogfaaDoorW.PrintMore
abbrev Hunk48:=S48
def cutR (rows:List Row57) (f t:Nat):List Row57:=(rows.take t).drop f
def keepB (rows:List Row57) (dense:Bool) (f t:Nat):Bool := !(dense && dullB (cutR rows f t))
def hunkOf (rows:List Row57) (f t:Nat):Hunk48 :=
  ⟨spansH (passR (rows.take f) (List.replicate (rd_T57 rows 0).f0.size 0)) (passR (rows.take t) (List.replicate (rd_T57 rows 0).f0.size 0)),⟨passN (rows.take f) 0,passN (rows.take t) 0⟩,cutR rows f t⟩
def cutsH (rows:List Row57) (sh:List Bool):List Hunk48:=(HkP.groupsGo id sh (sh.length+1) 0).map (fun p=>hunkOf rows p.1 p.2)
theorem own_raw {W:World} {base e g n:Nat} {xs:List Value} (h:W.ownsRow base e 1 (.slice (some ⟨g,0,none⟩) n n) n xs):W.heap[g]? = some (.cells xs.toArray e (0,0)):=by
 obtain⟨h1,h2|⟨g',cap,cur,he,_,hc,_,_,hs,ht⟩⟩:=h;(· cases h2.1);(· (injection he with a _ b);(cases a;subst b);rw[hc];rw[← ht,List.take_of_length_le (by rw[Array.length_toList,hs];exact Nat.le_refl _)])
theorem setCell_same {W:World} {g j:Nat} {cs:Array Value} {t:TypeId} {v:Value} (h:W.heap[g]? = some (.cells cs t (0,0))) (hv:cs[j]? = some v):W.setCell ⟨g,j,none⟩ v=W:=by
 have hlt:=(Array.getElem?_eq_some_iff.1 h).1;have hj:=(Array.getElem?_eq_some_iff.1 hv).1
 have e:W.heap.modify g (fun | .cells c elem frozen => .cells (if (none:Option Nat).isSome then c else c.setIfInBounds j v) elem frozen|o=>o)=W.heap:=by
  apply Array.ext_getElem?;intro k;rw[Array.getElem?_modify];split
  ·
   rename_i e;subst e;rw[h];simp only[Option.map_some,Option.isSome_none,Bool.false_eq_true, ↓reduceIte,Option.some.injEq,Obj.cells.injEq,and_true];apply Array.ext_getElem?;intro k;rw[Array.getElem?_setIfInBounds];split;(· rename_i e;subst e;exact hv.symm);(· rfl)
  (· rfl)
 unfold World.setCell;cases W;simp only[World.mk.injEq,and_true];exact e
theorem setCells_same {W:World} {g:Nat} {cs:Array Value} {t:TypeId} (h:W.heap[g]? = some (.cells cs t (0,0))) : ∀ (vs:List Value) (o:Nat),(∀ j v,vs[j]? = some v→cs[o+j]? = some v)→W.setCells g o vs=W
 | [],_,_=>rfl
 | v :: vs,o,hv=>by
  rw[World.setCells,setCell_same h (by simpa using hv 0 v rfl)];exact setCells_same h vs (o+1) (fun j u hu=>by have:=hv (j+1) u (by simpa using hu);rwa [show o+(j+1)=o+1+j by omega] at this)
theorem cutR_len {rows:List Row57} {f t:Nat} (ht:t≤rows.length):(cutR rows f t).length=t - f:=by
 rw[cutR,List.length_drop,List.length_take,Nat.min_eq_left ht]
theorem cutR_mem {rows:List Row57} {f t:Nat} {x:Row57} (h:x ∈ cutR rows f t):x ∈ rows:=List.mem_of_mem_take (List.mem_of_mem_drop h)
def BoxH (w:World) (v:Value) (x:Int) (dense:Bool) (W:World):Prop :=
  W.heap[w.heap.size]? = some (.cells #[v] 36 (0,0))∧W.heap[w.heap.size+1]? = some (.cells #[.int .i64 x] 3 (0,0))∧W.heap[w.heap.size+1+1]? = some (.cells #[.bool dense] 4 (0,0))
theorem BoxH.below {w W W':World} {v:Value} {x:Int} {dense:Bool} (h:BoxH w v x dense W) (hb:Below W.heap.size W W'):BoxH w v x dense W':=⟨farKeep h.1 hb,farKeep h.2.1 hb,farKeep h.2.2 hb⟩
def ShI (w:World) (gs:Nat) (v:Value) (n:Nat) (x:Int) (dense:Bool) (s:List Bool) (W:World):Prop :=
  Below w.heap.size w W∧BoxH w v x dense W∧w.heap.size+1+1 < gs∧s.length=n∧W.heap[gs]? = some (.cells (s.map Value.bool).toArray 4 (0,0)) ∧
    W.heap[gs+1]? = some (.cells #[.slice (some ⟨gs,0,none⟩) n n] 83 (0,0))∧W.heap[gs+1+1]? = some (.cells #[v] 36 (0,0))
theorem ShI.below {w W W':World} {gs n:Nat} {v:Value} {x:Int} {dense:Bool} {s:List Bool} (h:ShI w gs v n x dense s W) (hb:Below W.heap.size W W'):ShI w gs v n x dense s W' :=
  ⟨far_ h.1 hb,h.2.1.below hb,h.2.2.1,h.2.2.2.1,farKeep h.2.2.2.2.1 hb,farKeep h.2.2.2.2.2.1 hb,farKeep h.2.2.2.2.2.2 hb⟩
theorem ShI.put {w W:World} {gs n:Nat} {v:Value} {x:Int} {dense:Bool} {s:List Bool} (h:ShI w gs v n x dense s W) {r:Nat} {o:Obj} (o':Obj) (hr:w.heap.size≤r) (hl:W.heap[r]? = some o) (ho:o.isCells=false):ShI w gs v n x dense s (W.putObj r o'):=by
 obtain⟨h1,⟨a,b,c⟩,h2,h3,h4,h5,h6⟩:=h;exact⟨h1.grown (grownBy_putObj' W r o') h1.size (fun k e=>by cases e;exact hr),⟨putKeep a hl ho,putKeep b hl ho,putKeep c hl ho⟩,h2,h3,putKeep h4 hl ho,putKeep h5 hl ho,putKeep h6 hl ho⟩
theorem ShI.shown {w W W':World} {gs n:Nat} {v:Value} {x:Int} {dense:Bool} {s s':List Bool} {ok:Nat→Prop} (h:ShI w gs v n x dense s W) (hk:Kept W W' (fun k=>k=gs)) (hb:Below w.heap.size w W') (hr:Kd.R Kd.bool 4 W' w.heap.size ok (.slice (some ⟨gs,0,none⟩) n n) s') (hl:s'.length=n):ShI w gs v n x dense s' W'∧KeepsOthers W W':=by
 obtain⟨h1,⟨a,b,c⟩,h2,h3,h4,h5,h6⟩:=h;(have keep : ∀ {k:Nat} {o:Obj},W.heap[k]? = some o→k≠gs→W'.heap[k]? = some o:=fun {k o} h hne=>(hk.2 k (Array.getElem?_eq_some_iff.1 h).1 hne).trans h);have ho:=Kd.own_of_R hr;(rw[hl] at ho);refine⟨⟨hb,⟨keep a (by omega),keep b (by omega),keep c (by omega)⟩,h2,hl,own_raw ho,keep h5 (by omega),keep h6 (by omega)⟩,hk.1,fun k o hko ho=>?_⟩;refine keep hko (fun e=>?_);subst e;(rw[h4] at hko);cases hko;cases ho
structure HuI (P:Nat→Prop) (w:World) (gs B d:Nat) (v:Value) (n:Nat) (x:Int) (dense:Bool) (sh:List Bool) (olds:List Int) (m:Int) (out:List Hunk48) (vo:Value) (W:World):Prop where
  bel:Below w.heap.size w W
  box:BoxH w v x dense W
  lo:w.heap.size+1+1 < gs
  hi:gs+1 < B
  top:B+1 < W.heap.size
  shown:W.heap[gs]? = some (.cells (sh.map Value.bool).toArray 4 (0,0))
  at8:W.heap[gs+1]? = some (.cells #[.slice (some ⟨gs,0,none⟩) n n] 83 (0,0))
  def_:W.heap[d]? = some (.deferred (some []))
  dlt:d < B
  ct:CtAt W (B+1) B olds m
  rows:Kd.N k48 48 W (B+1+1) (fun k=>(P k∧k < w.heap.size)∨B+1+1≤k) vo out
section
variable {P:Nat→Prop} {w:World} {gs B d:Nat} {v:Value} {n:Nat} {x:Int} {dense:Bool} {sh:List Bool} {olds olds':List Int} {m m':Int} {out:List Hunk48} {vo:Value} {W W':World}
theorem HuI.alloc (h:HuI P w gs B d v n x dense sh olds m out vo W) (hb:Below W.heap.size W W'):HuI P w gs B d v n x dense sh olds m out vo W' :=
  ⟨far_ h.bel hb,h.box.below hb,h.lo,h.hi,Nat.lt_of_lt_of_le h.top hb.size,farKeep h.shown hb,farKeep h.at8 hb,farKeep h.def_ hb,h.dlt,h.ct.below hb,Kd.N_below h.rows hb⟩
end
theorem HuI.fresh {P:Nat→Prop} {w:World} {gs B d:Nat} {v:Value} {n:Nat} {x:Int} {dense:Bool} {sh:List Bool} {olds:List Int} {m:Int} {out:List Hunk48} {vo:Value} {W W2:World} (h:HuI P w gs B d v n x dense sh olds m out vo W) (hb:Below w.heap.size w W2) {A:Option Addr} {hk:Hunk48} (hF:Kd.F k57 w P A hk.f2.length hk.f2) {v2:Value} (hr:Kd.R k45 45 W2 W.heap.size (fun _=>True) v2 hk.f0) {c:Nat} (hc:hk.f2.length≤c) :
    Kd.FK k48 W2 (fun k=>(P k∧k < w.heap.size)∨W.heap.size≤k) hk [v2, .int .i64 hk.f1.f0, .int .i64 hk.f1.f1, .slice A hk.f2.length c] ∧ ∀ k,((P k∧k < w.heap.size)∨W.heap.size≤k)→((P k∧k < w.heap.size)∨B+1+1≤k)∧some k≠vo.ownBlock:=by
 obtain⟨A2,c2,rfl⟩:=Kd.R_slice hr;have hr2:=Kd.R_bound hr;have h3:=h.top;refine⟨k48_mkF _ _ hk (Kd.R_reads' hr).2.1 (Kd.F_mono (Kd.R_F hr2) (fun k hk => .inr hk.2.1)) hc (Kd.F_mono (Kd.F_below (Kd.F_bound hF) hb) (fun k hk => .inl hk)),fun k hk=>?_⟩
 have hne:some k≠vo.ownBlock:=fun e=>by
  have h1:=Kd.N_base h.rows k e.symm;obtain⟨cs,hc⟩:=Kd.N_typed h.rows k e.symm;have h2:=(Array.getElem?_eq_some_iff.1 hc).1;have h4:=h.lo;have h5:=h.hi;omega
 refine⟨?_,hne⟩
 rcases hk with hk|hk
 (· exact .inl hk);(· exact .inr (by omega))
def cutsGo (rows:List Row57) (sh:List Bool) (r i:Nat):List Hunk48:=(HkP.groupsGo id sh r i).map (fun p=>hunkOf rows p.1 p.2)
theorem cutsGo_end (rows:List Row57) {sh:List Bool} {i:Nat} (h : ¬ i < sh.length) : ∀ r,cutsGo rows sh r i=[]
 | 0=>rfl
 | r+1=>by rw[cutsGo,HkP.groupsGo,dif_neg h];rfl
theorem cutsGo_hit (rows:List Row57) {sh:List Bool} {r i:Nat} (h:i < sh.length) (hm:sh[i]=true):cutsGo rows sh (r+1) i=hunkOf rows i (HkP.groupEnd id sh i) :: cutsGo rows sh r (HkP.groupEnd id sh i):=by
 (rw[cutsGo,HkP.groupsGo,dif_pos h,if_pos (show id sh[i]=true from hm)];rfl)
theorem cutsGo_miss (rows:List Row57) {sh:List Bool} {r i:Nat} (h:i < sh.length) (hm:sh[i]=false):cutsGo rows sh (r+1) i=cutsGo rows sh r (i+1):=by
 (rw[cutsGo,HkP.groupsGo,dif_pos h,if_neg (by rw[id,hm];decide)];rfl)
theorem cutsGo_len (rows:List Row57) (sh:List Bool) : ∀ r i,(cutsGo rows sh r i).length≤r
 | 0,_=>Nat.zero_le _
 | r+1,i=>by
  by_cases h:i < sh.length
  ·
   cases hm:sh[i] with
   | true=>rw[cutsGo_hit rows h hm];have:=cutsGo_len rows sh r (HkP.groupEnd id sh i);rw[List.length_cons];omega
   | false=>rw[cutsGo_miss rows h hm];have:=cutsGo_len rows sh r (i+1);omega
  (· (rw[cutsGo_end rows h];exact Nat.zero_le _))
abbrev ctR (rows:List Row57) (i:Nat):List Int:=passR (rows.take i) (List.replicate (rd_T57 rows 0).f0.size 0)
abbrev ctN (rows:List Row57) (i:Nat):Int:=passN (rows.take i) 0
theorem ctR_len (rows:List Row57) (i:Nat):(ctR rows i).length=(rd_T57 rows 0).f0.size:=by rw[passR_len,List.length_replicate]
end Go.Proofs.YthcnfflhejogfaaDoor.X
namespace Go.Proofs.YthcnfflhejogfaaDoor.X
open Go
theorem handed_and_shaped {H:Type} {enc:TypeId × Value→H} {a:Assume} {C:Checked} {os:Os} {f:FuncId} {fn:Func} {s:ChangeSpec} {conds:List PathCond} {apart fresh handsOn again:Bool} {X:World→Array Value→Prop}
    (hX : ∀ (w w':World) (args:Array Value),w.heap=w'.heap→X w args→X w' args)
    (own:ownKnob C.prog.godebug=none) (started:os.Started) (noInit:C.prog.inits.idxOf? f=none) (hfn:C.prog.funcs[f]? = some fn)
    (witness : ∃ (w:World) (tape:Tape) (i:Input),w.os=os∧(w.forCall tape i).Shaped C.prog∧i.vars=[]∧Input.okWide C.prog (w.forCall tape i) .any w.heap.size f i ∧
      ((s.pre enc C.prog fn conds apart (w.forCall tape i).memory i.args∧X (w.forCall tape i).memory i.args)∧sizedMet enc C.prog fn (OpenSpec.ofChange s) apart (w.forCall tape i).memory i.args)∧a.holds C.prog (lone (Frame.enter C.prog f i.args .normal) [] (w.forCall tape i)))
    (contract : ∀ (W:World) (base:Nat) (args:Array Value) (ds gs:List (DataW H)) (before:List MemPlace),
      (∀ (j:Nat) t v,fn.params[j]? = some t→args[j]? = some v→Value.okWide C.prog W .any base t v) →
      DataW.Whole enc C.prog fn.params.toList s.vars apart W args.toList ds gs before →
      conds.all (PathCond.test C.prog ⟨fn.params.toList,ds,s.plain.varTypes C.prog,gs⟩)=true →
      (DataW.weightsEach C.prog (fn.params.toList ++ s.plain.varTypes C.prog) (ds ++ gs)).all (· ≤ reachBytes)=true→X W args→W.ShapedOpen C.prog →
      a.holds C.prog (lone (Frame.enter C.prog f args .normal) [] W) →
      Calls C.prog f args W fun e W' => ∃ v,e = .returned v∧s.post enc C.prog fn apart fresh handsOn again W args v W') :
    ReturnsInHanded a C os f .any (fun w args=>(s.pre enc C.prog fn conds apart w args∧X w args)∧sizedMet enc C.prog fn (OpenSpec.ofChange s) apart w args) (s.post enc C.prog fn apart fresh handsOn again):=by
  refine returnsInHanded_of_calls own started noInit witness ?_
  intro w tape i _ hsh _ hok hpre hholds
  obtain⟨_,_,_,fn',hfn',_,_,_,_,hval⟩:=hok
  have e:fn'=fn:=Option.some.inj (hfn'.symm.trans hfn)
  subst e
  obtain⟨⟨⟨ds,gs,before,hw,hc⟩,hx⟩,hz⟩:=hpre
  have hw':=DataW.Whole.of_heap (w':=w.forCall tape i) (by rfl) hw
  refine(contract (w.forCall tape i) w.heap.size i.args ds gs before hval hw' hc (hz.weights hw) (hX _ _ _ (by rfl) hx) hsh hholds).mono fun e W' ⟨v,he,hp⟩=>?_
  subst he
  exact ChangeSpec.post_blind hp
theorem max_of_shape {w:World} (h:w.ShapedOpen Tryd.prog):MaxAt w:=by
 obtain⟨m,hm⟩:=Go.Proofs.cell_of_shapedOpen_int (P:=Tryd.prog) (g:=0) (t:=3) (zero:=#[.int .i64 0]) h (of_decide_eq_true (by kernel_rfl)) (by kernel_rfl) rfl (by kernel_rfl) (by kernel_rfl) Tryd.underlying3;exact⟨World.block_lt_of_cell? w _ hm,m,hm⟩
end Go.Proofs.YthcnfflhejogfaaDoor.X
namespace Go.Proofs.YthcnfflhejogfaaDoor.X
open Go.RowKit Go.Proofs.YthcnfflhejogfaaDoorW.PrintWords Go.Proofs.YthcnfflhejogfaaDoorW.PrintLast Go.Proofs.YthcnfflhejogfaaDoorW.PrintMore
def fcC (c:UInt8):UInt8:=if c=45 then 43 else c
theorem map_fc : ∀ {l:List UInt8},(∀ c ∈ l,c≠45)→l.map fcC=l
 | [],_=>rfl
 | c :: l,h=>by
  rw[List.map_cons,map_fc (fun x hx=>h x (List.mem_cons_of_mem _ hx)),fcC,if_neg (h c List.mem_cons_self)]
theorem replace_map : ∀ (n:Nat) (l:List UInt8),l.length≤n→Lib.replaceK [45] [43] (Lib.count l [45]) l=l.map fcC:=by
 intro n
 induction n with
 | zero =>
  intro l hl;have:l=[]:=List.length_eq_zero_iff.1 (by omega);subst this;(rw[Lib.count_miss (by rw[Lib.index_one];rfl)];rfl)
 | succ n ih =>
  intro l hl;have hge:=Lib.index_ge l [45]
  by_cases hm:Lib.index l [45] = -1
  (· rw[Lib.count_miss hm];(rw[Lib.index_one] at hm);show l=_;refine(map_fc fun c hc e=>?_).symm;obtain⟨k,hk,he⟩:=List.mem_iff_getElem.1 hc;exact Lib.indexByte_none hm k (by rw[List.getElem?_eq_getElem hk,he,e]))
  ·
   obtain⟨i,hi⟩ : ∃ i:Nat,Lib.index l [45]=i:=⟨(Lib.index l [45]).toNat,by omega⟩;rw[Lib.count_hit (by simp) hi,Nat.add_comm,Lib.replaceK_hit _ _ _ _ _ hi];(rw[Lib.index_one] at hi);obtain⟨h1,h2⟩:=Lib.indexByte_some hi;obtain⟨hil,hie⟩:=List.getElem?_eq_some_iff.1 h1;rw[show ([45]:List UInt8).length=1 from rfl,ih (l.drop (i+1)) (by rw[List.length_drop];omega)]
   have e:l=l.take i ++ 45 :: l.drop (i+1):=by
    have:=(List.take_append_drop i l).symm
    rwa [dropCons hil,hie] at this
   have ht:(l.take i).map fcC=l.take i:=map_fc fun c hc e=>by
    obtain⟨k,hk,he⟩:=List.mem_iff_getElem.1 hc;(rw[List.length_take] at hk);(rw[List.getElem_take] at he);exact h2 k (by omega) (by rw[List.getElem?_eq_getElem (by omega),he,e])
   conv=>rhs;rw[e,List.map_append,List.map_cons,ht]
   (rw[List.append_assoc];rfl)
theorem cols_data (s:ByteArray):(colsOf s).data.toList=s.data.toList.map fcC:=by
 show (Lib.replaceAll s.data.toList [45] [43])=_;rw[Lib.replaceAll,Lib.replace,if_neg (by decide),Lib.replaceNum,if_pos (.inl (by decide)),replace_map _ _ (Nat.le_refl _)]
def blankP (s:ByteArray):List Bool:=s.data.toList.map (· == 32)
theorem cols_blank {s:ByteArray} (h:s.data.toList.all okC=true):(colsOf s).data.toList=(blankP s).map (fun b=>if b=true then 32 else 43):=by
 rw[cols_data,blankP,List.map_map];apply List.map_congr_left;intro c hc;have:=List.all_eq_true.1 h c hc;(simp[okC] at this)
 rcases this with e|e|e <;> subst e <;> rfl
theorem map_inj_bool : ∀ {a b:List Bool},a.map (fun b=>if b=true then (32:UInt8) else 43)=b.map (fun b=>if b=true then (32:UInt8) else 43)→a=b
 | [],[],_=>rfl
 | [],_ :: _,h=>by cases h
 | _ :: _,[],h=>by cases h
 | x :: a,y :: b,h=>by
  (rw[List.map_cons,List.map_cons] at h);(injection h with h1 h2);rw[map_inj_bool h2];(cases x <;> cases y <;> first|rfl|(exact absurd h1 (by decide)))
theorem cols_iff {s t:ByteArray} (hs:s.data.toList.all okC=true) (ht:t.data.toList.all okC=true):colsOf s=colsOf t↔blankP s=blankP t:=by
 constructor;(· intro h;have:=congrArg (fun b:ByteArray=>b.data.toList) h;(simp only[cols_blank hs,cols_blank ht] at this);exact map_inj_bool this);(· intro h;apply ByteArray.ext;apply Array.toList_inj.1;rw[cols_blank hs,cols_blank ht,h])
def GoodR (n:Nat) (rows:List RowH):Prop := ∀ x ∈ rows,x.f0.size=n∧x.f0.data.toList.all okC=true
def dullC:List RowH→Bool
  | []=>false
  | r :: l=>((blankP r.f0).any id && (blankP r.f0).any not) && (r :: l).all (fun x=>decide (blankP x.f0=blankP r.f0))
theorem dull_eq {n:Nat} {rows:List RowH} (hg:GoodR n rows):dullB rows=dullC rows:=by
 cases rows with
 | nil=>rfl
 | cons r l =>
  have hr:=(hg r List.mem_cons_self).2
  have e1:hasB (colsOf r.f0) 43=(blankP r.f0).any not:=by
   rw[hasB_eq,hasC,cols_blank hr,List.any_map]
   congr 1;funext b;cases b <;> rfl
  have e2:hasB (colsOf r.f0) 32=(blankP r.f0).any id:=by
   rw[hasB_eq,hasC,cols_blank hr,List.any_map]
   congr 1;funext b;cases b <;> rfl
  have e3:(!((r :: l).any (otherB (colsOf r.f0))))=(r :: l).all (fun x=>decide (blankP x.f0=blankP r.f0)):=by
   rw[Bool.eq_iff_iff,Bool.not_eq_true',List.any_eq_false,List.all_eq_true];constructor;(· intro h x hx;have:=h x hx;(rw[otherB] at this);(simp at this);rw[decide_eq_true_eq];exact(cols_iff (hg x hx).2 hr).1 this);(· intro h x hx;have:=of_decide_eq_true (h x hx);rw[otherB];simp;exact(cols_iff (hg x hx).2 hr).2 this)
  rw[dullB,dullC,e1,e2,e3,Bool.and_comm ((blankP r.f0).any not)]
theorem blank_at {s:ByteArray} {i:Nat} (h:i < s.size):((bt s (i:Int)) == 32)=(blankP s).getD i false:=by
 rw[btN h,blankP,List.getD_eq_getElem?_getD,List.getElem?_map,List.getElem?_eq_getElem (by rw[← sizeLen];exact h),Option.map_some,Option.getD_some,Bool.eq_iff_iff,beq_iff_eq,beq_iff_eq];constructor;(· (intro e;exact UInt8.toNat_inj.1 (by show _=32;omega)));(· (intro e;rw[e];rfl))
theorem blank_len (s:ByteArray):(blankP s).length=s.size:=by rw[blankP,List.length_map,← sizeLen]
theorem ref_Dull {n:Nat} {rows:List RowH} (hg:GoodR n rows) (hn:n≤1000000) (hl:rows.length≤1000000):Gives (fun k=>sennitref21_Dull.f k rows) (dullC rows):=by
 cases rows with
 | nil=>exact Gives.of fun k=>by show sennitref21_Dull.f (k+1) []=_;rw[sennitref21_Dull.f,if_pos (by simp)];rfl
 | cons r l =>
  obtain⟨rows,hrows⟩ : ∃ rows,r :: l=rows:=⟨_,rfl⟩;(have hpos:0 < rows.length:=by rw[← hrows];simp);(have h0:rd_T57 rows 0=r:=by rw[← hrows];rfl);have hr:r.f0.size=n:=(hg r List.mem_cons_self).1;obtain⟨R,hR⟩ : ∃ R,blankP r.f0=R:=⟨_,rfl⟩;(have hRl:R.length=n:=by rw[← hR,blank_len,hr]);rw[dullC,hrows,hR];(rw[hrows] at hg hl);(have szk : ∀ (j:Nat) (hj:j < rows.length),rows[j].f0.size=n:=fun j hj=>(hg _ (List.getElem_mem hj)).1)
  have key : ∀ (rr i b:Nat),i+rr=n→b≤i→Gives (fun k=>sennitref21_Dull.l0 k rows (b:Int) (i:Int)) ((rows.all (fun x=>decide ((blankP x.f0).drop i=R.drop i))) && (decide (0 < b+(R.drop i).count true) && decide (b+(R.drop i).count true < n))):=by
   intro rr
   induction rr with
   | zero =>
    intro i b hi hb;have e1:R.drop i=[]:=List.drop_of_length_le (by omega)
    have e2:(rows.all (fun x=>decide ((blankP x.f0).drop i=R.drop i)))=true:=List.all_eq_true.2 fun x hx=>by
     (rw[e1,List.drop_of_length_le (by rw[blank_len,(hg x hx).1];omega)];rfl)
    rw[e2,e1,List.count_nil,Nat.add_zero,Bool.true_and];(refine Gives.of fun k=>?_);show sennitref21_Dull.l0 (k+1) rows (b:Int) (i:Int)=_;rw[sennitref21_Dull.l0,if_pos (by omega),h0,if_neg (by omega),hr]
    by_cases hb0:0 < b
    ·
     rw[if_pos (by omega),decide_eq_true hb0,Bool.true_and]
     congr 1
     (rw[decide_eq_decide];omega)
    (· (rw[if_neg (by omega),decide_eq_false hb0];rfl))
   | succ rr ih =>
    intro i b hi hb;(have hiR:i < R.length:=by omega);have hdR:R.drop i=R[i] :: R.drop (i+1):=dropCons hiR;(have hcR:R.getD i false=R[i]:=by rw[List.getD_eq_getElem?_getD,List.getElem?_eq_getElem hiR];rfl)
    -- the rows from j on have the same here
    have hk : ∀ (m j:Nat),j+m=rows.length→Gives (fun k=>sennitref21_Dull.l1 k rows (b:Int) (i:Int) (j:Int)) (((rows.drop j).all (fun x=>decide ((blankP x.f0).getD i false=R[i]))) && ((rows.all (fun x=>decide ((blankP x.f0).drop (i+1)=R.drop (i+1)))) && (decide (0 < b+(R.drop i).count true) && decide (b+(R.drop i).count true < n)))):=by
     intro m
     induction m with
     | zero =>
      intro j hj;rw[List.drop_of_length_le (by omega),List.all_nil,Bool.true_and];have hbl:=blank_at (s:=r.f0) (i:=i) (by omega);(rw[hR,hcR] at hbl)
      cases hb2:R[i] with
      | true =>
       (rw[hb2] at hbl);have hnx:=ih (i+1) (b+1) (by omega) (by omega);(have hcnt:b+(R.drop i).count true=b+1+(R.drop (i+1)).count true:=by rw[hdR,hb2,List.count_cons_self];omega);rw[hcnt];(refine hnx.step fun k=>?_);show sennitref21_Dull.l1 (k+1) rows (b:Int) (i:Int) (j:Int)=_;rw[sennitref21_Dull.l1,if_neg (by omega),if_pos (by omega),if_pos (by omega),h0,if_pos (by omega),if_pos (eq_of_beq hbl),gw1 (by omega),gw1 (by omega)]
      | false =>
       (rw[hb2] at hbl);have hnx:=ih (i+1) b (by omega) (by omega);(have hcnt:b+(R.drop i).count true=b+(R.drop (i+1)).count true:=by rw[hdR,hb2,List.count_cons_of_ne (by decide)]);rw[hcnt];(refine hnx.step fun k=>?_);show sennitref21_Dull.l1 (k+1) rows (b:Int) (i:Int) (j:Int)=_;rw[sennitref21_Dull.l1,if_neg (by omega),if_pos (by omega),if_pos (by omega),h0,if_pos (by omega),if_neg (fun e=>by rw[e] at hbl;cases hbl),gw1 (by omega)]
     | succ m ihm =>
      intro j hj;(have hjl:j < rows.length:=by omega);have hsz:=szk j hjl;have hbl:=blank_at (s:=r.f0) (i:=i) (by omega);(rw[hR,hcR] at hbl);have hbj:=blank_at (s:=rows[j].f0) (i:=i) (by omega);rw[dropCons hjl,List.all_cons]
      by_cases e:(blankP rows[j].f0).getD i false=R[i]
      (· rw[decide_eq_true e,Bool.true_and];(refine(ihm (j+1) (by omega)).step fun k=>?_);show sennitref21_Dull.l1 (k+1) rows (b:Int) (i:Int) (j:Int)=_;rw[sennitref21_Dull.l1,if_pos (by omega),if_pos (by omega),if_pos (by omega),rdH hjl,if_pos (by omega),if_pos (by omega),h0,if_pos (by omega),hbj,hbl,e,if_neg (by simp),gw1 (by omega)]);(· rw[decide_eq_false e,Bool.false_and,Bool.false_and];(refine Gives.of fun k=>?_);show sennitref21_Dull.l1 (k+1) rows (b:Int) (i:Int) (j:Int)=_;rw[sennitref21_Dull.l1,if_pos (by omega),if_pos (by omega),if_pos (by omega),rdH hjl,if_pos (by omega),if_pos (by omega),h0,if_pos (by omega),hbj,hbl,if_pos (bne_iff_ne.2 e)])
    have e4:(rows.all (fun x=>decide ((blankP x.f0).drop i=R.drop i)))=((rows.all (fun x=>decide ((blankP x.f0).getD i false=R[i]))) && (rows.all (fun x=>decide ((blankP x.f0).drop (i+1)=R.drop (i+1))))):=by
     rw[Bool.eq_iff_iff,Bool.and_eq_true,List.all_eq_true,List.all_eq_true,List.all_eq_true];constructor
     ·
      intro h;refine⟨fun x hx=>?_,fun x hx=>?_⟩;(· have:=of_decide_eq_true (h x hx);(have hil:i < (blankP x.f0).length:=by rw[blank_len,(hg x hx).1];omega);(rw[hdR,dropCons hil] at this);(injection this with q1 q2);rw[decide_eq_true_eq,List.getD_eq_getElem?_getD,List.getElem?_eq_getElem hil,Option.getD_some,q1]);(· have:=of_decide_eq_true (h x hx);(have hil:i < (blankP x.f0).length:=by rw[blank_len,(hg x hx).1];omega);(rw[hdR,dropCons hil] at this);(injection this with q1 q2);exact decide_eq_true q2)
     (· rintro⟨h1,h2⟩ x hx;(have hil:i < (blankP x.f0).length:=by rw[blank_len,(hg x hx).1];omega);have q1:=of_decide_eq_true (h1 x hx);have q2:=of_decide_eq_true (h2 x hx);(rw[List.getD_eq_getElem?_getD,List.getElem?_eq_getElem hil,Option.getD_some] at q1);rw[decide_eq_true_eq,hdR,dropCons hil,q1,q2])
    rw[e4,Bool.and_assoc];(refine(hk rows.length 0 (by omega)).step fun k=>?_);show sennitref21_Dull.l0 (k+1) rows (b:Int) (i:Int)=_;(rw[sennitref21_Dull.l0,if_pos (by omega),h0,if_pos (by omega)];rfl)
  have hcnt:(decide (0 < R.count true) && decide (R.count true < n))=(R.any id && R.any not):=by
   have a1:decide (0 < R.count true)=R.any id:=by
    rw[Bool.eq_iff_iff,decide_eq_true_eq,List.count_pos_iff,List.any_eq_true];exact⟨fun h=>⟨true,h,rfl⟩,fun ⟨b,hb,e⟩=>by cases b;cases e;exact hb⟩
   have a2:decide (R.count true < n)=R.any not:=by
    rw[Bool.eq_iff_iff,decide_eq_true_eq,List.any_eq_true,← hRl];constructor
    ·
     intro h
     by_cases hf:false ∈ R
     (· exact⟨false,hf,rfl⟩)
     ·
      exfalso
      have:R.count true=R.length:=List.count_eq_length.2 fun b hb=>by
       cases b;(· exact(hf hb).elim);(· rfl)
      omega
    ·
     rintro⟨b,hb,e⟩;cases b
     ·
      have h1:=List.count_le_length (a:=true) (l:=R)
      rcases Nat.lt_or_ge (R.count true) R.length with h|h
      (· exact h);(· have:=List.count_eq_length.1 (Nat.le_antisymm h1 h) false hb;cases this)
     (· cases e)
   rw[a1,a2]
  (refine((key n 0 0 (by omega) (Nat.le_refl _)).eq ?_).same fun k=>?_);(· simp only[List.drop_zero,Nat.zero_add];rw[hcnt,Bool.and_comm]);(· show sennitref21_Dull.f k rows=_;(rw[sennitref21_Dull.f,if_neg (by omega)];rfl))
theorem Gives.of' {α:Type} {f:Nat→Option α} {r:α} (N:Nat) (h : ∀ k,N≤k→f (k+1)=some r):Gives f r:=⟨N+1,fun k hk=>by obtain⟨j,rfl⟩ : ∃ j,k=j+1:=⟨k - 1,by omega⟩;exact h j (by omega)⟩
theorem GoodR.cut {n:Nat} {rows:List RowH} (h:GoodR n rows) (f t:Nat):GoodR n (cutR rows f t):=fun x hx=>h x (cutR_mem hx)
theorem mayB_good {rows:List RowH} (h:mayB rows=true):GoodR (rd_T57 rows 0).f0.size rows∧(rows≠[]→1≤(rd_T57 rows 0).f0.size∧(rd_T57 rows 0).f0.size≤16):=by
 (rw[mayB,List.all_eq_true] at h);constructor;(· intro x hx;have:=h x hx;(rw[mayRow,Bool.and_eq_true,Bool.and_eq_true,Bool.and_eq_true,decide_eq_true_eq,decide_eq_true_eq] at this);exact⟨this.2.2.1,this.2.1⟩);(· intro hn;obtain⟨x,l,rfl⟩ : ∃ x l,rows=x :: l:=List.exists_cons_of_ne_nil hn;have:=h x List.mem_cons_self;(rw[Bool.and_eq_true,decide_eq_true_eq] at this);exact this.1)
theorem ref_kept {n:Nat} {rows:List RowH} (hg:GoodR n rows) (hn:n≤1000000) (hz:Low rows) (hl:rows.length≤1000000) (dense:Bool) {i:Nat} (hi:i < rows.length):Gives (fun k=>sennitref21_kept.f k rows (i:Int) dense) (HkP.keptR mrkB (keepB rows dense) rows i):=by
 have hm:=ref_marked_at hz hi;rw[HkP.keptR]
 cases e:HkP.mk mrkB rows i with
 | false =>
  (rw[e] at hm);rw[Bool.false_and];(refine Gives.last0 hm fun k hk=>?_);show sennitref21_kept.f k rows (i:Int) dense=_;rw[sennitref21_kept.f,if_pos (by omega),if_pos (by omega),hk,Option.bind_some,if_neg (by decide)]
 | true =>
  (rw[e] at hm);rw[Bool.true_and]
  cases dense with
  | false =>
   (refine Gives.last0 hm fun k hk=>?_);show sennitref21_kept.f k rows (i:Int) false=_;(rw[sennitref21_kept.f,if_pos (by omega),if_pos (by omega),hk,Option.bind_some,if_pos rfl,if_neg (by decide)];rfl)
  | true =>
   have hb:=ref_begin hz hl i (by omega);have he:=ref_end hz hl (rows.length - i) i (by omega);obtain⟨hgp,h1,h2⟩:=HkP.isGroup_at mrkB ((HkP.mk_iff mrkB).1 e);have hge:HkP.groupEnd mrkB rows i≤rows.length:=hgp.2.1;obtain⟨f,hf⟩ : ∃ f,HkP.groupBegin mrkB rows i=f:=⟨_,rfl⟩;obtain⟨t,ht⟩ : ∃ t,HkP.groupEnd mrkB rows i=t:=⟨_,rfl⟩;(rw[hf] at hb h1);(rw[ht] at he h2 hge);rw[hf,ht];have hd:=ref_Dull (hg.cut f t) hn (by rw[cutR_len hge];omega);(rw[← dull_eq (hg.cut f t)] at hd);(have ek:keepB rows true f t = !(dullB (cutR rows f t)):=by rw[keepB,Bool.true_and]);rw[ek];(refine Gives.call0 hm (Gives.call0 hb (Gives.call0 he (Gives.last0 hd (f:=fun k=>(sennitref21_Dull.f k (cutR rows f t)).bind fun t152=>some (!t152)) fun k hk=>?_) (f:=fun k=>(sennitref21_end.f k rows (i:Int)).bind fun t147=>(if 0≤(f:Int) then (if (f:Int)≤t147 then (if t147≤(rows.length:Int) then ((sennitref21_Dull.f k ((rows.take (t147:Int).toNat).drop (f:Int).toNat)).bind fun t152=>(some (!t152))) else (none)) else (none)) else (none))) fun k hk=>?_) (f:=fun k=>(sennitref21_begin.f k rows (i:Int)).bind fun t146=>((sennitref21_end.f k rows (i:Int)).bind fun t147=>(if 0≤t146 then (if t146≤t147 then (if t147≤(rows.length:Int) then ((sennitref21_Dull.f k ((rows.take (t147:Int).toNat).drop (t146:Int).toNat)).bind fun t152=>(some (!t152))) else (none)) else (none)) else (none)))) fun k hk=>?_) fun k hk=>?_);(· show Option.bind _ _=_;rw[hk,Option.bind_some]);(· show Option.bind _ _=Option.bind _ _;(rw[hk,Option.bind_some,if_pos (by omega),if_pos (by omega),if_pos (by omega),Int.toNat_natCast,Int.toNat_natCast];rfl));(· show Option.bind _ _=Option.bind _ _;rw[hk,Option.bind_some]);(· show sennitref21_kept.f k rows (i:Int) true=_;rw[sennitref21_kept.f,if_pos (by omega),if_pos (by omega),hk,Option.bind_some,if_pos rfl,if_pos rfl])
theorem nextM_stop {rows:List RowH} {j:Nat} (h:HkP.mk mrkB rows j=true∨rows.length≤j):HkP.nextM mrkB rows j=j:=by
 rw[HkP.nextM,HkP.groupEnd_stop];rintro⟨h1,h2⟩
 rcases h with h|h
 (· obtain⟨_,h3⟩:=(HkP.mk_iff mrkB).1 h;(simp only[h3] at h2);cases h2);(· omega)
theorem nextM_go {rows:List RowH} {j:Nat} (hj:j < rows.length) (h:HkP.mk mrkB rows j=false):HkP.nextM mrkB rows j=HkP.nextM mrkB rows (j+1):=by
 rw[HkP.nextM,HkP.nextM];refine HkP.groupEnd_step _ hj ?_;(rw[HkP.mk_at _ hj] at h);(rw[h];rfl)
theorem ref_shown {n:Nat} {rows:List RowH} (hg:GoodR n rows) (hn:n≤1000000) (hz:Low rows) (hl:rows.length≤1000000) (dense:Bool) (x:Nat) (hx:x≤1000) {i:Nat} (hi:i < rows.length):Gives (fun k=>sennitref21_shown.f k rows (i:Int) (x:Int) dense) (HkP.shownR mrkB (keepB rows dense) rows x i):=by
 have hm:=ref_marked_at hz hi;rw[HkP.shownR]
 cases e:HkP.mk mrkB rows i with
 | true =>
  (rw[e] at hm);rw[if_pos rfl];(refine Gives.call0 hm (Gives.last0 (ref_kept hg hn hz hl dense hi) (f:=fun k=>(sennitref21_kept.f k rows (i:Int) dense).bind fun t=>some t) fun k hk=>?_) fun k hk=>?_);(· show Option.bind _ _=_;rw[hk,Option.bind_some]);(· show sennitref21_shown.f k rows (i:Int) (x:Int) dense=_;rw[sennitref21_shown.f,if_pos (by omega),if_pos (by omega),hk,Option.bind_some,if_pos rfl])
 | false =>
  (rw[e] at hm);rw[if_neg (by decide)]
  -- the next one, with the last one at hand
  have hup : ∀ (p:Nat),p≤i → ∀ (r j:Nat),j+r=rows.length→i < j→Gives (fun k=>sennitref21_shown.l1 k rows (i:Int) (x:Int) dense ((p:Int) - 1) (j:Int)) ((decide (0 < p) && (decide (i+1≤p+x) && HkP.keptR mrkB (keepB rows dense) rows (p - 1))) || (decide (HkP.nextM mrkB rows j < rows.length) && (decide (HkP.nextM mrkB rows j≤i+x) && HkP.keptR mrkB (keepB rows dense) rows (HkP.nextM mrkB rows j)))):=by
   intro p hp r
   have hkp:0 < p→Gives (fun k=>sennitref21_kept.f k rows ((p:Int) - 1) dense) (HkP.keptR mrkB (keepB rows dense) rows (p - 1)):=fun h=>by
    have:=ref_kept hg hn hz hl dense (i:=p - 1) (by omega)
    rwa [show ((p - 1:Nat):Int)=(p:Int) - 1 by omega] at this
   have ew:wrap64 ((i:Int) - ((p:Int) - 1))=(i:Int) - ((p:Int) - 1):=gw (by omega) (by omega)
   induction r with
   | zero =>
    intro j hj hij;rw[nextM_stop (.inr (by omega)),decide_eq_false (show ¬ j < rows.length by omega),Bool.false_and,Bool.or_false]
    by_cases h0:0 < p
    ·
     rw[decide_eq_true h0,Bool.true_and]
     by_cases h1:i+1≤p+x
     (· rw[decide_eq_true h1,Bool.true_and];(refine Gives.last (hkp h0) fun k hk=>?_);show sennitref21_shown.l1 (k+1) rows (i:Int) (x:Int) dense ((p:Int) - 1) (j:Int)=_;rw[sennitref21_shown.l1,if_neg (by omega),if_pos (by omega),ew,if_pos (by omega),hk,Option.bind_some];(cases HkP.keptR mrkB (keepB rows dense) rows (p - 1) <;> rfl));(· rw[decide_eq_false h1,Bool.false_and];(refine Gives.of fun k=>?_);show sennitref21_shown.l1 (k+1) rows (i:Int) (x:Int) dense ((p:Int) - 1) (j:Int)=_;rw[sennitref21_shown.l1,if_neg (by omega),if_pos (by omega),ew,if_neg (by omega)])
    (· rw[decide_eq_false h0,Bool.false_and];(refine Gives.of fun k=>?_);show sennitref21_shown.l1 (k+1) rows (i:Int) (x:Int) dense ((p:Int) - 1) (j:Int)=_;rw[sennitref21_shown.l1,if_neg (by omega),if_neg (by omega)])
   | succ r ih =>
    intro j hj hij;(have hjl:j < rows.length:=by omega);have hmj:=ref_marked_at hz hjl
    cases ej:HkP.mk mrkB rows j with
    | false =>
     (rw[ej] at hmj);rw[nextM_go hjl ej];(refine Gives.call hmj (ih (j+1) (by omega) (by omega)) fun k hk=>?_);show sennitref21_shown.l1 (k+1) rows (i:Int) (x:Int) dense ((p:Int) - 1) (j:Int)=_;rw[sennitref21_shown.l1,if_pos (by omega),if_pos (by omega),hk,Option.bind_some,if_neg (by decide),gw1 (by omega)]
    | true =>
     (rw[ej] at hmj);rw[nextM_stop (.inl ej),decide_eq_true hjl,Bool.true_and];have hkj:=ref_kept hg hn hz hl dense hjl;have ew2:wrap64 ((j:Int) - (i:Int))=(j:Int) - (i:Int):=gw (by omega) (by omega);obtain⟨K1,hK1⟩ : ∃ q,HkP.keptR mrkB (keepB rows dense) rows (p - 1)=q:=⟨_,rfl⟩;obtain⟨K2,hK2⟩ : ∃ q,HkP.keptR mrkB (keepB rows dense) rows j=q:=⟨_,rfl⟩;(rw[hK1] at hkp);(rw[hK2] at hkj);rw[hK1,hK2]
     have e0 : ∀ k,sennitref21_Marked.f k (rd_T57 rows (j:Int)).f0 (rd_T57 rows (j:Int)).f1=some true→sennitref21_shown.l1 (k+1) rows (i:Int) (x:Int) dense ((p:Int) - 1) (j:Int)=if 0 < p then (if i+1≤p+x then ((sennitref21_kept.f k rows ((p:Int) - 1) dense).bind fun t160=>(if j≤i+x then ((sennitref21_kept.f k rows (j:Int) dense).bind fun t161=>(if t160=true then (some true) else (some t161))) else (if t160=true then (some true) else (some false)))) else (if j≤i+x then ((sennitref21_kept.f k rows (j:Int) dense).bind fun t162=>(some t162)) else (some false))) else (if j≤i+x then ((sennitref21_kept.f k rows (j:Int) dense).bind fun t163=>(some t163)) else (some false)):=fun k hk=>by
      rw[sennitref21_shown.l1,if_pos (by omega),if_pos (by omega),hk,Option.bind_some,if_pos rfl,ew,ew2];have c1:((p:Int) - 1 ≥ 0)=(0 < p):=propext ⟨fun _=>by omega,fun _=>by omega⟩;have c2:((i:Int) - ((p:Int) - 1)≤(x:Int))=(i+1≤p+x):=propext ⟨fun _=>by omega,fun _=>by omega⟩;have c3:((j:Int) - (i:Int)≤(x:Int))=(j≤i+x):=propext ⟨fun _=>by omega,fun _=>by omega⟩;simp only[c1,c2,c3]
     by_cases h0:0 < p
     ·
      by_cases h1:i+1≤p+x
      ·
       rw[decide_eq_true h0,decide_eq_true h1,Bool.true_and,Bool.true_and]
       by_cases h2:j≤i+x
       (· rw[decide_eq_true h2,Bool.true_and];obtain⟨N1,g1⟩:=hmj;(dsimp only at g1);obtain⟨N2,g2⟩:=hkp h0;(dsimp only at g2);obtain⟨N3,g3⟩:=hkj;(dsimp only at g3);(refine Gives.of' (N1+N2+N3) fun k hk=>?_);show sennitref21_shown.l1 (k+1) rows (i:Int) (x:Int) dense ((p:Int) - 1) (j:Int)=_;rw[e0 k (g1 k (by omega)),if_pos h0,if_pos h1,g2 k (by omega),Option.bind_some,if_pos h2,g3 k (by omega),Option.bind_some];(cases K1 <;> rfl));(· rw[decide_eq_false h2,Bool.false_and,Bool.or_false];obtain⟨N1,g1⟩:=hmj;(dsimp only at g1);obtain⟨N2,g2⟩:=hkp h0;(dsimp only at g2);(refine Gives.of' (N1+N2) fun k hk=>?_);show sennitref21_shown.l1 (k+1) rows (i:Int) (x:Int) dense ((p:Int) - 1) (j:Int)=_;rw[e0 k (g1 k (by omega)),if_pos h0,if_pos h1,g2 k (by omega),Option.bind_some,if_neg h2];(cases K1 <;> rfl))
      ·
       rw[decide_eq_false h1,Bool.false_and,Bool.and_false,Bool.false_or]
       by_cases h2:j≤i+x
       (· rw[decide_eq_true h2,Bool.true_and];obtain⟨N1,g1⟩:=hmj;(dsimp only at g1);obtain⟨N3,g3⟩:=hkj;(dsimp only at g3);(refine Gives.of' (N1+N3) fun k hk=>?_);show sennitref21_shown.l1 (k+1) rows (i:Int) (x:Int) dense ((p:Int) - 1) (j:Int)=_;rw[e0 k (g1 k (by omega)),if_pos h0,if_neg h1,if_pos h2,g3 k (by omega),Option.bind_some]);(· rw[decide_eq_false h2,Bool.false_and];(refine Gives.last hmj fun k hk=>?_);show sennitref21_shown.l1 (k+1) rows (i:Int) (x:Int) dense ((p:Int) - 1) (j:Int)=_;rw[e0 k hk,if_pos h0,if_neg h1,if_neg h2])
     ·
      rw[decide_eq_false h0,Bool.false_and,Bool.false_or]
      by_cases h2:j≤i+x
      (· rw[decide_eq_true h2,Bool.true_and];obtain⟨N1,g1⟩:=hmj;(dsimp only at g1);obtain⟨N3,g3⟩:=hkj;(dsimp only at g3);(refine Gives.of' (N1+N3) fun k hk=>?_);show sennitref21_shown.l1 (k+1) rows (i:Int) (x:Int) dense ((p:Int) - 1) (j:Int)=_;rw[e0 k (g1 k (by omega)),if_neg h0,if_pos h2,g3 k (by omega),Option.bind_some]);(· rw[decide_eq_false h2,Bool.false_and];(refine Gives.last hmj fun k hk=>?_);show sennitref21_shown.l1 (k+1) rows (i:Int) (x:Int) dense ((p:Int) - 1) (j:Int)=_;rw[e0 k hk,if_neg h0,if_neg h2])
  -- the last one
  have hdn : ∀ (q:Nat),q≤i→Gives (fun k=>sennitref21_shown.l0 k rows (i:Int) (x:Int) dense ((q:Int) - 1)) ((decide (0 < HkP.lastM mrkB rows q) && (decide (i+1≤HkP.lastM mrkB rows q+x) && HkP.keptR mrkB (keepB rows dense) rows (HkP.lastM mrkB rows q - 1))) || (decide (HkP.nextM mrkB rows (i+1) < rows.length) && (decide (HkP.nextM mrkB rows (i+1)≤i+x) && HkP.keptR mrkB (keepB rows dense) rows (HkP.nextM mrkB rows (i+1))))):=by
   intro q
   have hj1 : ∀ p:Nat,p≤i→Gives (fun k=>sennitref21_shown.j1 k rows (i:Int) (x:Int) dense ((p:Int) - 1)) _:=fun p hp=>(hup p hp (rows.length - (i+1)) (i+1) (by omega) (by omega)).step fun k=>by
    show sennitref21_shown.j1 (k+1) rows (i:Int) (x:Int) dense ((p:Int) - 1)=_;rw[sennitref21_shown.j1,gw1 (by omega)]
   induction q with
   | zero =>
    intro hq;(refine(hj1 0 (by omega)).step fun k=>?_);show sennitref21_shown.l0 (k+1) rows (i:Int) (x:Int) dense (((0:Nat):Int) - 1)=_;rw[sennitref21_shown.l0,if_neg (by omega)]
   | succ q ih =>
    intro hq;(have hql:q < rows.length:=by omega);(have e1:((q+1:Nat):Int) - 1=(q:Int):=by omega);have hmq:=ref_marked_at hz hql;rw[HkP.lastM]
    cases eq:HkP.mk mrkB rows q with
    | true =>
     (rw[eq] at hmq);rw[if_pos rfl];(refine Gives.call hmq (hj1 (q+1) hq) fun k hk=>?_);show sennitref21_shown.l0 (k+1) rows (i:Int) (x:Int) dense (((q+1:Nat):Int) - 1)=_;rw[e1,sennitref21_shown.l0,if_pos (by omega),if_pos (by omega),if_pos (by omega),hk,Option.bind_some,if_pos rfl]
    | false =>
     (rw[eq] at hmq);rw[if_neg (by decide)];(refine Gives.call hmq (ih (by omega)) fun k hk=>?_);show sennitref21_shown.l0 (k+1) rows (i:Int) (x:Int) dense (((q+1:Nat):Int) - 1)=_;rw[e1,sennitref21_shown.l0,if_pos (by omega),if_pos (by omega),if_pos (by omega),hk,Option.bind_some,if_neg (by decide),gw (by omega) (by omega)]
  (refine Gives.call0 hm (hdn i (Nat.le_refl _)) fun k hk=>?_);show sennitref21_shown.f k rows (i:Int) (x:Int) dense=_;rw[sennitref21_shown.f,if_pos (by omega),if_pos (by omega),hk,Option.bind_some,if_neg (by decide),gw (by omega) (by omega)]
def shownC (rows:List RowH) (x:Nat) (dense:Bool):List Bool:=(List.range rows.length).map (HkP.shownR mrkB (keepB rows dense) rows x)
theorem shownC_len (rows:List RowH) (x:Nat) (dense:Bool):(shownC rows x dense).length=rows.length:=by simp[shownC]
theorem shownC_at {rows:List RowH} {x i:Nat} {dense:Bool} (hi:i < rows.length):(shownC rows x dense).getD i false=HkP.shownR mrkB (keepB rows dense) rows x i:=by
 (rw[shownC,List.getD_eq_getElem?_getD,List.getElem?_map,List.getElem?_range hi];rfl)
theorem MaxAt.go {w W:World} (h:Aside0 (MaxAt w)) (hb:Below w.heap.size w W):MaxAt W:=h.out.step hb
def lowB (rows:List RowH):Bool:=decide (rows.length≤1000000) && rows.all (fun x=>decide (x.f0.size≤1000000) && decide (x.f1.size≤1000000))
theorem lowB_iff {rows:List RowH} (h:lowB rows=true):rows.length≤1000000∧Low rows∧LowT rows:=by
 (rw[lowB,Bool.and_eq_true,decide_eq_true_eq,List.all_eq_true] at h);refine⟨h.1,fun x hx=>?_,fun x hx=>?_⟩;(· (have:=h.2 x hx;rw[Bool.and_eq_true,decide_eq_true_eq,decide_eq_true_eq] at this;exact this.1));(· (have:=h.2 x hx;rw[Bool.and_eq_true,decide_eq_true_eq,decide_eq_true_eq] at this;exact this.2))
theorem lowB_mk {rows:List RowH} (h1:rows.length≤1000000) (h2:Low rows) (h3:LowT rows):lowB rows=true:=by
 rw[lowB,Bool.and_eq_true,decide_eq_true_eq,List.all_eq_true];exact⟨h1,fun x hx=>by rw[Bool.and_eq_true,decide_eq_true_eq,decide_eq_true_eq];exact⟨h2 x hx,h3 x hx⟩⟩
def hunksC (rows:List RowH) (x:Int) (dense:Bool):List Hunk48 × Int :=
  if x < 0∨1000 < x then ([],1) else if mayB rows=false then ([],2) else (cutsH rows (shownC rows x.toNat dense),0)
abbrev ApiRow:=S57
theorem apiRow_ext {x y:ApiRow} (h0:x.f0=y.f0) (h1:x.f1=y.f1):x=y:=by
 (cases x;cases y;cases h0;cases h1;rfl)
instance apiRowDec:DecidableEq ApiRow:=fun x y=>decidable_of_iff (x.f0=y.f0∧x.f1=y.f1) ⟨fun h=>apiRow_ext h.1 h.2,fun h=>by rw[h];exact⟨rfl,rfl⟩⟩
theorem index45_cases (u:List UInt8):(¬ (45:UInt8) ∈ u∧Lib.indexByte u 45 = -1)∨((45:UInt8) ∈ u∧0≤Lib.indexByte u 45):=by
 induction u with
 | nil=>left;simp[Lib.indexByte]
 | cons x xs ih =>
  simp only[Lib.indexByte,List.mem_cons]
  by_cases e:x=45
  (· (right;simp[e]))
  ·
   (have e':(x == 45)=false:=by simp[e]);(have e2 : ¬ (45:UInt8)=x:=fun h=>e h.symm);rw[e']
   rcases ih with ⟨h1,h2⟩|⟨h1,h2⟩
   (· (left;simp[h1,h2,e2]));(· right;refine⟨.inr h1,?_⟩;rw[if_neg (by decide),if_neg (by simp;omega)];omega)
theorem index45 (u:List UInt8):decide (0≤Lib.indexByte u 45)=decide ((45:UInt8) ∈ u):=by
 rw[decide_eq_decide]
 rcases index45_cases u with ⟨h1,h2⟩|⟨h1,h2⟩
 (· simp[h1,h2]);(· simp[h1,h2])
theorem byte45 (c:UInt8):((c.toNat:Int)=45)↔c=45:=by
 constructor;(· intro h;(have:c.toNat=45:=by omega);exact UInt8.toNat_inj.1 this);(· (rintro rfl;rfl))
theorem lostB_mem (s:ByteArray):lostB s=decide ((45:UInt8) ∈ s.data.toList):=index45 _
theorem ref_Lost20 (s t:ByteArray) (hs:s.size≤1000000000):Gives (fun k=>sennitref20_Lost.f k s t) (lostB s):=by
 have hl : ∀ (r i:Nat),i+r=s.size→Gives (fun k=>sennitref20_Lost.l0 k (i:Int) s t) (decide ((45:UInt8) ∈ s.data.toList.drop i)):=by
  intro r
  induction r with
  | zero =>
   intro i hi;(refine Gives.of fun k=>?_);show sennitref20_Lost.l0 (k+1) (i:Int) s t=_;rw[sennitref20_Lost.l0,if_neg (by omega),List.drop_of_length_le (by rw[← sizeLen];omega)];simp
  | succ r ih =>
   intro i hi;(have hil:i < s.size:=by omega);have hd:=dropCons (l:=s.data.toList) (i:=i) (by rw[← sizeLen];exact hil);rw[hd]
   by_cases e:s.data.toList[i]'(by rw[← sizeLen];exact hil)=45
   (· (refine Gives.of fun k=>?_);show sennitref20_Lost.l0 (k+1) (i:Int) s t=_;rw[sennitref20_Lost.l0,if_pos (by omega),if_pos (by omega),btN hil,if_pos ((byte45 _).2 e),e];simp);(· (have e2 : ¬ (45:UInt8)=s.data.toList[i]'(by rw[← sizeLen];exact hil):=fun h=>e h.symm);(refine((ih (i+1) (by omega)).eq (by simp only[List.mem_cons,e2,false_or])).step fun k=>?_);show sennitref20_Lost.l0 (k+1) (i:Int) s t=_;rw[sennitref20_Lost.l0,if_pos (by omega),if_pos (by omega),btN hil,if_neg (fun h=>e ((byte45 _).1 h)),gw1 (by omega)])
 rw[lostB_mem];(exact(hl s.size 0 (by omega)).same fun k=>rfl)
theorem ref_Of20 (s t:ByteArray) (i:Int) (hs:s.size≤1000000000):Gives (fun k=>sennitref20_Of.f k s t i) (ofB i s):=by
 (refine Gives.last0 (ref_Lost20 s t hs) fun k hk=>?_);show sennitref20_Of.f k s t i=_;rw[sennitref20_Of.f]
 by_cases h0:i < 0
 (· (rw[if_pos h0,ofB,decide_eq_false (show ¬ 0≤i by omega)];rfl))
 ·
  rw[if_neg h0]
  by_cases h1:i ≥ (s.size:Int)
  (· (rw[if_pos h1,ofB,decide_eq_false (show ¬ i < (s.size:Int) by omega)];simp))
  ·
   rw[if_neg h1,if_pos (by omega),if_pos (by omega),hk,Option.bind_some,ofB,decide_eq_true (show 0≤i by omega),decide_eq_true (show i < (s.size:Int) by omega),Bool.true_and,Bool.true_and]
   by_cases h2:bt s i=45
   (· rw[if_pos h2,decide_eq_true h2,Bool.true_or])
   ·
    rw[if_neg h2,decide_eq_false h2,Bool.false_or]
    by_cases h3:bt s i=32
    (· rw[if_pos h3,decide_eq_true h3,Bool.true_and]);(· rw[if_neg h3,decide_eq_false h3,Bool.false_and])
section
variable {R:List ApiRow}
theorem ref_Column20 (i:Int) (hR:R.length≤100000) (hz : ∀ x ∈ R,x.f0.size≤1000000000):Gives (fun k=>sennitref20_Column.f k R i) ((R.filter (fun x=>ofB i x.f0)).map (·.f1)):=by
 have hl : ∀ (r a:Nat) (out:List ByteArray),a+r=R.length→out.length≤a→Gives (fun k=>sennitref20_Column.l0 k R i out (a:Int)) (out ++ ((R.drop a).filter (fun x=>ofB i x.f0)).map (·.f1)):=by
  intro r
  induction r with
  | zero =>
   intro a out ha ho;(refine Gives.of fun k=>?_);show sennitref20_Column.l0 (k+1) R i out (a:Int)=_;rw[sennitref20_Column.l0,if_neg (by omega),List.drop_of_length_le (by omega)];simp
  | succ r ih =>
   intro a out ha ho;(have haR:a < R.length:=by omega);have e:rd_T57 R (a:Int)=R[a]:=getN haR;have ho20:=ref_Of20 R[a].f0 R[a].f1 i (hz _ (List.getElem_mem _));rw[dropCons haR]
   cases hb:ofB i R[a].f0 with
   | true =>
    rw[List.filter_cons_of_pos (by exact hb),List.map_cons];have:=ih (a+1) (out ++ [R[a].f1]) (by omega) (by simp;omega);(rw[List.append_assoc,List.singleton_append] at this);(refine Gives.call ho20 this fun k hk=>?_);show sennitref20_Column.l0 (k+1) R i out (a:Int)=_;(have hk':sennitref20_Of.f k R[a].f0 R[a].f1 i=some true:=by rw[← hb];exact hk);rw[sennitref20_Column.l0,if_pos (by omega),if_pos (by omega),e,hk',Option.bind_some,if_pos rfl,if_pos (by omega),gw1 (by omega)]
   | false =>
    rw[List.filter_cons_of_neg (by rw[hb];decide)];(refine Gives.call ho20 (ih (a+1) out (by omega) (by omega)) fun k hk=>?_);show sennitref20_Column.l0 (k+1) R i out (a:Int)=_;(have hk':sennitref20_Of.f k R[a].f0 R[a].f1 i=some false:=by rw[← hb];exact hk);rw[sennitref20_Column.l0,if_pos (by omega),if_pos (by omega),e,hk',Option.bind_some,if_neg (by decide),gw1 (by omega)]
 have:=hl R.length 0 [] (by omega) (by simp);(exact this.same fun k=>rfl)
theorem ref_Result20 (hR:R.length≤100000) (hz : ∀ x ∈ R,x.f0.size≤1000000000):Gives (fun k=>sennitref20_Result.f k R) ((R.filter (fun x => !lostB x.f0)).map (·.f1)):=by
 have hl : ∀ (r a:Nat) (out:List ByteArray),a+r=R.length→out.length≤a→Gives (fun k=>sennitref20_Result.l0 k R out (a:Int)) (out ++ ((R.drop a).filter (fun x => !lostB x.f0)).map (·.f1)):=by
  intro r
  induction r with
  | zero =>
   intro a out ha ho;(refine Gives.of fun k=>?_);show sennitref20_Result.l0 (k+1) R out (a:Int)=_;rw[sennitref20_Result.l0,if_neg (by omega),List.drop_of_length_le (by omega)];simp
  | succ r ih =>
   intro a out ha ho;(have haR:a < R.length:=by omega);have e:rd_T57 R (a:Int)=R[a]:=getN haR;have ho20:=ref_Lost20 R[a].f0 R[a].f1 (hz _ (List.getElem_mem _));rw[dropCons haR]
   cases hb:lostB R[a].f0 with
   | false =>
    rw[List.filter_cons_of_pos (by rw[hb];rfl),List.map_cons];have:=ih (a+1) (out ++ [R[a].f1]) (by omega) (by simp;omega);(rw[List.append_assoc,List.singleton_append] at this);(refine Gives.call ho20 this fun k hk=>?_);show sennitref20_Result.l0 (k+1) R out (a:Int)=_;(have hk':sennitref20_Lost.f k R[a].f0 R[a].f1=some false:=by rw[← hb];exact hk);rw[sennitref20_Result.l0,if_pos (by omega),if_pos (by omega),e,hk',Option.bind_some,if_neg (by decide),if_pos (by omega),gw1 (by omega)]
   | true =>
    rw[List.filter_cons_of_neg (by rw[hb];decide)];(refine Gives.call ho20 (ih (a+1) out (by omega) (by omega)) fun k hk=>?_);show sennitref20_Result.l0 (k+1) R out (a:Int)=_;(have hk':sennitref20_Lost.f k R[a].f0 R[a].f1=some true:=by rw[← hb];exact hk);rw[sennitref20_Result.l0,if_pos (by omega),if_pos (by omega),e,hk',Option.bind_some,if_pos rfl,gw1 (by omega)]
 have:=hl R.length 0 [] (by omega) (by simp);(exact this.same fun k=>rfl)
theorem col_f (i:Int) (hR:R.length≤1000000000) (hz : ∀ x ∈ R,x.f0.size≤1000000000):table_Column.f R i=some ((R.filter (fun x=>ofB i x.f0)).map (·.f1)):=by
 rw[table_Column.f,if_pos ⟨hR,fun x hx=>by have:=hz x hx;omega⟩]
theorem res_f (hR:R.length≤1000000000) (hz : ∀ x ∈ R,x.f0.size≤1000000000):table_Result.f R=some ((R.filter (fun x => !lostB x.f0)).map (·.f1)):=by
 rw[table_Result.f,if_pos ⟨hR,fun x hx=>by have:=hz x hx;omega⟩]
end
def FewR (rows:List RowH):Prop:=rows.length≤40 ∧ ∀ x ∈ rows,x.f0.size≤20∧x.f1.size≤100
theorem FewR.low {rows:List RowH} (h:FewR rows):lowB rows=true:=lowB_mk (by have:=h.1;omega) (fun x hx=>by have:=h.2 x hx;omega) (fun x hx=>by have:=h.2 x hx;omega)
theorem passN_count : ∀ (rows:List RowH) (n:Int),passN rows n=n+((rows.filter (fun x => !lostB x.f0)).length:Int)
 | [],n=>by simp[passN]
 | x :: rows,n=>by
  show passN rows (n+oneB (!lostB x.f0))=_;rw[passN_count rows,List.filter_cons]
  cases h : !lostB x.f0 with
  | true=>rw[if_pos rfl,List.length_cons];simp only[oneB,if_true];omega
  | false=>rw[if_neg (by decide)];simp only[oneB,Bool.false_eq_true,if_false];omega
theorem passR_count {i:Nat} : ∀ (rows:List RowH) (olds:List Int),i < olds.length→(passR rows olds).getD i 0=olds.getD i 0+((rows.filter (fun x=>ofB (i:Int) x.f0)).length:Int)
 | [],olds,_=>by simp[passR]
 | x :: rows,olds,h=>by
  show (passR rows (passL x.f0 olds)).getD i 0=_;rw[passR_count rows _ (by rw[passL_len];exact h),passL_get _ _ h,List.filter_cons]
  cases h:ofB (i:Int) x.f0 with
  | true=>rw[if_pos rfl,List.length_cons];simp only[oneB,if_true];omega
  | false=>rw[if_neg (by decide)];simp only[oneB,Bool.false_eq_true,if_false];omega
theorem ctN_eq (rows:List RowH) (f:Nat):ctN rows f=(((rows.take f).filter (fun x => !lostB x.f0)).length:Int):=by
 show passN (rows.take f) 0=_;(rw[passN_count];omega)
theorem ctR_eq {rows:List RowH} {f i:Nat} (h:i < (rd_T57 rows 0).f0.size):(ctR rows f).getD i 0=(((rows.take f).filter (fun x=>ofB (i:Int) x.f0)).length:Int):=by
 rw[passR_count _ _ (by rw[List.length_replicate];exact h),List.getD_eq_getElem?_getD,List.getElem?_replicate,if_pos h];simp
theorem cut_split {rows:List RowH} {f t:Nat} (h:f≤t):rows.take t=rows.take f ++ cutR rows f t:=by
 have:=(List.take_append_drop f (rows.take t)).symm
 rwa [List.take_take,Nat.min_eq_left h] at this
theorem filter_len_cut {rows:List RowH} {f t:Nat} (h:f≤t) (p:RowH→Bool):((rows.take f).filter p).length+((cutR rows f t).filter p).length=((rows.take t).filter p).length:=by
 rw[cut_split h,List.filter_append,List.length_append]
theorem spansH_take {rows:List RowH} {f t i:Nat} (hi:i < (rd_T57 rows 0).f0.size):(spansH (ctR rows f) (ctR rows t)).take (i+1)=(spansH (ctR rows f) (ctR rows t)).take i ++ [⟨(ctR rows f).getD i 0,(ctR rows t).getD i 0⟩]:=by
 (have h1:i < (ctR rows f).length:=by rw[ctR_len];exact hi);(have h2:i < (ctR rows t).length:=by rw[ctR_len];exact hi);(have hl:i < (spansH (ctR rows f) (ctR rows t)).length:=by rw[spansH,List.length_zipWith];omega);rw[← List.take_append_getElem hl]
 congr 1
 simp only[spansH,List.getElem_zipWith];rw[getD_get h1,getD_get h2]
theorem ref_Hunk21 {rows:List RowH} (hz:Low rows) (hl:rows.length≤100000) (hn:(rd_T57 rows 0).f0.size≤1000000) {f t:Nat} (hft:f≤t) (ht:t≤rows.length) (hpos:0 < rows.length):Gives (fun k=>sennitref21_Hunk.f k rows (f:Int) (t:Int)) ((hunkOf rows f t).f0,(hunkOf rows f t).f1.f0,(hunkOf rows f t).f1.f1,(hunkOf rows f t).f2):=by
 (have hz2 : ∀ x ∈ rows,x.f0.size≤1000000000:=fun x hx=>by have:=hz x hx;omega);(have hzt : ∀ q,∀ x ∈ rows.take q,x.f0.size≤1000000000:=fun q x hx=>hz2 x (List.mem_of_mem_take hx));(have hzc : ∀ x ∈ cutR rows f t,x.f0.size≤1000000000:=fun x hx=>hz2 x (cutR_mem hx));(have hlt : ∀ q,(rows.take q).length≤100000:=fun q=>by rw[List.length_take];omega);(have hlc:(cutR rows f t).length≤100000:=by rw[cutR_len ht];omega);obtain⟨n,hn0⟩ : ∃ n,(rd_T57 rows 0).f0.size=n:=⟨_,rfl⟩
 have hloop : ∀ (r i:Nat),i+r=n→Gives (fun k=>sennitref21_Hunk.l0 k rows (f:Int) (t:Int) (i:Int) ((spansH (ctR rows f) (ctR rows t)).take i) (ctN rows f) (ctN rows t) (cutR rows f t)) (spansH (ctR rows f) (ctR rows t),ctN rows f,ctN rows t,cutR rows f t):=by
  intro r
  induction r with
  | zero =>
   intro i hi;have e:(spansH (ctR rows f) (ctR rows t)).take i=spansH (ctR rows f) (ctR rows t):=List.take_of_length_le (by rw[spansH,List.length_zipWith,ctR_len,ctR_len];omega);rw[e];(refine Gives.of fun k=>?_);show sennitref21_Hunk.l0 (k+1) rows (f:Int) (t:Int) (i:Int) _ _ _ _=_;rw[sennitref21_Hunk.l0,if_pos (by omega),if_neg (by omega)]
  | succ r ih =>
   intro i hi;have h1:=ref_Column20 (R:=rows.take f) (i:Int) (hlt f) (hzt f);have h2:=ref_Column20 (R:=cutR rows f t) (i:Int) hlc hzc;(have hlen:((spansH (ctR rows f) (ctR rows t)).take i).length≤i:=by rw[List.length_take];omega);(have e1:(((((rows.take f).filter (fun x=>ofB (i:Int) x.f0)).map (·.f1)).length:Nat):Int)=(ctR rows f).getD i 0:=by rw[List.length_map,ctR_eq (by omega)]);have hfl:((rows.take f).filter (fun x=>ofB (i:Int) x.f0)).length+((cutR rows f t).filter (fun x=>ofB (i:Int) x.f0)).length=((rows.take t).filter (fun x=>ofB (i:Int) x.f0)).length:=filter_len_cut hft (rows:=rows) (fun x=>ofB (i:Int) x.f0);have hb:((rows.take t).filter (fun x=>ofB (i:Int) x.f0)).length≤(rows.take t).length:=List.length_filter_le _ _;have hb2:=hlt t
   have e2:wrap64 (((((rows.take f).filter (fun x=>ofB (i:Int) x.f0)).map (·.f1)).length:Int)+((((cutR rows f t).filter (fun x=>ofB (i:Int) x.f0)).map (·.f1)).length:Int))=(ctR rows t).getD i 0:=by
    (rw[ctR_eq (by omega),List.length_map,List.length_map,gw (by omega) (by omega)];omega)
   have hnx:=ih (i+1) (by omega);(rw[spansH_take (by omega)] at hnx);obtain⟨K1,k1⟩:=h1;obtain⟨K2,k2⟩:=h2;obtain⟨K3,k3⟩:=hnx;(dsimp only at k1 k2 k3);(refine Gives.of' (K1+K2+K3) fun k hk=>?_);show sennitref21_Hunk.l0 (k+1) rows (f:Int) (t:Int) (i:Int) _ _ _ _=_;rw[sennitref21_Hunk.l0,if_pos (by omega),if_pos (by omega),if_pos (by omega),if_pos (by omega),Int.toNat_natCast,Int.toNat_natCast,k1 k (by omega),Option.bind_some,if_pos (by omega),if_pos (by omega)];rw[show (rows.take t).drop f=cutR rows f t from rfl,k2 k (by omega),Option.bind_some,if_pos (by omega),e2,e1,gw1 (by omega)];exact k3 k (by omega)
 have hr1:=ref_Result20 (R:=rows.take f) (hlt f) (hzt f);have hr2:=ref_Result20 (R:=cutR rows f t) hlc hzc;have hl0:=hloop n 0 (by omega);(have e1:(((((rows.take f).filter (fun x => !lostB x.f0)).map (·.f1)).length:Nat):Int)=ctN rows f:=by rw[List.length_map,ctN_eq]);have hfl:((rows.take f).filter (fun x => !lostB x.f0)).length+((cutR rows f t).filter (fun x => !lostB x.f0)).length=((rows.take t).filter (fun x => !lostB x.f0)).length:=filter_len_cut hft (rows:=rows) (fun x => !lostB x.f0);have hb:((rows.take t).filter (fun x => !lostB x.f0)).length≤(rows.take t).length:=List.length_filter_le _ _;have hb2:=hlt t
 have e2:wrap64 (((((rows.take f).filter (fun x => !lostB x.f0)).map (·.f1)).length:Int)+((((cutR rows f t).filter (fun x => !lostB x.f0)).map (·.f1)).length:Int))=ctN rows t:=by
  (rw[ctN_eq,List.length_map,List.length_map,gw (by omega) (by omega)];omega)
 obtain⟨K1,k1⟩:=hr1;obtain⟨K2,k2⟩:=hr2;obtain⟨K3,k3⟩:=hl0;(dsimp only at k1 k2 k3);refine⟨K1+K2+K3,fun k hk=>?_⟩;show sennitref21_Hunk.f k rows (f:Int) (t:Int)=_;rw[sennitref21_Hunk.f,if_pos (by omega),if_pos (by omega),if_pos (by omega),if_pos (by omega),Int.toNat_natCast,Int.toNat_natCast,k1 k (by omega),Option.bind_some];rw[show (rows.take t).drop f=cutR rows f t from rfl,k2 k (by omega),Option.bind_some,e2,e1];exact k3 k (by omega)
theorem cutsGo_fuel (rows:List RowH) (sh:List Bool) : ∀ (r r' i:Nat),sh.length < r+i→sh.length < r'+i→cutsGo rows sh r i=cutsGo rows sh r' i:=by
 intro r
 induction r with
 | zero=>intro r' i h h';rw[cutsGo_end rows (by omega),cutsGo_end rows (by omega)]
 | succ r ih =>
  intro r' i h h'
  by_cases hi:i < sh.length
  ·
   obtain⟨r',rfl⟩ : ∃ q,r'=q+1:=⟨r' - 1,by omega⟩
   cases hm:sh[i] with
   | true =>
    have h1:=HkP.groupEnd_spec id sh (i+1) (by omega);rw[cutsGo_hit rows hi hm,cutsGo_hit rows hi hm,HkP.groupEnd_step id hi hm,ih r' _ (by omega) (by omega)]
   | false=>rw[cutsGo_miss rows hi hm,cutsGo_miss rows hi hm,ih r' _ (by omega) (by omega)]
  (· rw[cutsGo_end rows hi,cutsGo_end rows hi])
theorem ref_Hunks21 {rows:List RowH} (hlow:lowB rows=true) (hl5:rows.length≤100000) (x:Int) (dense:Bool):Gives (fun k=>sennitref21_Hunks.f k rows x dense) (hunksC rows x dense):=by
 obtain⟨hl,hz,ht⟩:=lowB_iff hlow;rw[hunksC]
 have hj : ∀ q,(q=true∨(¬ x < 0 ∧ ¬ 1000 < x))→Gives (fun k=>sennitref21_Hunks.j0 k rows x dense q) (if q=true then (([]:List Hunk48),(1:Int)) else if mayB rows=false then ([],2) else (cutsH rows (shownC rows x.toNat dense),0)):=by
  intro q hq
  cases q with
  | true =>
   rw[if_pos rfl];(refine Gives.of fun k=>?_);show sennitref21_Hunks.j0 (k+1) rows x dense true=_;rw[sennitref21_Hunks.j0,if_pos rfl]
  | false =>
   rw[if_neg (by decide)]
   have hx : ¬ x < 0 ∧ ¬ 1000 < x:=by
    rcases hq with h|h
    (· cases h);(· exact h)
   have hm:=ref_MayH hz ht hl
   cases hmb:mayB rows with
   | false =>
    (rw[hmb] at hm);rw[if_pos rfl];(refine Gives.last hm fun k hk=>?_);show sennitref21_Hunks.j0 (k+1) rows x dense false=_;rw[sennitref21_Hunks.j0,if_neg (by decide),hk,Option.bind_some,if_neg (by decide)]
   | true =>
    (rw[hmb] at hm);rw[if_neg (by decide)];obtain⟨hg,hsz⟩:=mayB_good hmb;obtain⟨xn,rfl⟩ : ∃ xn:Nat,x=(xn:Int):=⟨x.toNat,by omega⟩;rw[Int.toNat_natCast];obtain⟨sh,hsh⟩ : ∃ sh,shownC rows xn dense=sh:=⟨_,rfl⟩;(have hshl:sh.length=rows.length:=by rw[← hsh,shownC_len])
    have hsa : ∀ i (hi:i < rows.length),HkP.shownR mrkB (keepB rows dense) rows xn i=sh[i]'(by omega):=fun i hi=>by
     rw[← shownC_at (x:=xn) (dense:=dense) hi,List.getD_eq_getElem?_getD];simp only[hsh];rw[List.getElem?_eq_getElem (by omega),Option.getD_some]
    rw[hsh]
    have hloop : ∀ (r i:Nat) (out:List Hunk48),rows.length < r+i→out.length≤i→Gives (fun k=>sennitref21_Hunks.l0 k rows (xn:Int) dense out (i:Int)) (out ++ cutsGo rows sh r i,0):=by
     intro r
     induction r with
     | zero =>
      intro i out hr ho;rw[cutsGo_end rows (by omega),List.append_nil];(refine Gives.of fun k=>?_);show sennitref21_Hunks.l0 (k+1) rows (xn:Int) dense out (i:Int)=_;rw[sennitref21_Hunks.l0,if_neg (by omega)]
     | succ r ih =>
      intro i out hr ho
      by_cases hi:i < rows.length
      ·
       obtain⟨T,hT⟩ : ∃ T,HkP.groupEnd id sh i=T:=⟨_,rfl⟩;have hsp:=HkP.groupEnd_spec id sh i (by omega);(rw[hT,hshl] at hsp);obtain⟨hiT,hTn,hin,hend⟩:=hsp
       have hfin:Gives (fun k=>sennitref21_Hunks.l1 k rows (xn:Int) dense out (i:Int) (T:Int)) (out ++ cutsGo rows sh (r+1) i,0):=by
        have hTs:T < rows.length→Gives (fun k=>sennitref21_shown.f k rows (T:Int) (xn:Int) dense) false:=fun h=>by
         have:=ref_shown hg (by
          by_cases hn:rows=[]
          (· (rw[hn] at h;exact absurd h (by simp)))
          ·
           have:=hsz hn;omega) hz hl dense xn (by omega) h
         (rw[hsa T h] at this)
         have e:sh[T]'(by omega)=false:=by
          cases e:sh[T]'(by omega) with
          | false=>rfl
          | true=>exact(hend ⟨by omega,e⟩).elim
         rwa [e] at this
        by_cases hTi:i < T
        ·
         have him:sh[i]'(by omega)=true:=(hin i (Nat.le_refl _) hTi).2;have hh:=ref_Hunk21 hz hl5 (by have:=hsz (by intro e;rw[e] at hi;exact absurd hi (by simp));omega) hiT hTn (by omega)
         have hcut:cutsGo rows sh (r+1) i=hunkOf rows i T :: cutsGo rows sh r (T+1):=by
          rw[cutsGo_hit rows (by omega) him,hT]
          congr 1
          by_cases hTl:T < sh.length
          ·
           have e:sh[T]=false:=by
            cases e:sh[T] with
            | false=>rfl
            | true=>exact(hend ⟨hTl,e⟩).elim
           rw[cutsGo_fuel rows sh r (r+1) T (by omega) (by omega),cutsGo_miss rows hTl e]
          (· rw[cutsGo_end rows hTl,cutsGo_end rows (by omega)])
         have hnx:=ih (T+1) (out ++ [hunkOf rows i T]) (by omega) (by rw[List.length_append,List.length_singleton];omega);rw[hcut];(rw[List.append_assoc] at hnx);obtain⟨K1,k1⟩:=hh;obtain⟨K2,k2⟩:=hnx;(dsimp only at k1 k2)
         by_cases hTl:T < rows.length
         (· obtain⟨K3,k3⟩:=hTs hTl;(dsimp only at k3);(refine Gives.of' (K1+K2+K3) fun k hk=>?_);show sennitref21_Hunks.l1 (k+1) rows (xn:Int) dense out (i:Int) (T:Int)=_;rw[sennitref21_Hunks.l1,if_pos (by omega),k3 k (by omega),Option.bind_some,if_neg (by decide),if_pos (by omega),k1 k (by omega),Option.bind_some,if_pos (by omega),gw1 (by omega)];exact k2 k (by omega));(· (refine Gives.of' (K1+K2) fun k hk=>?_);show sennitref21_Hunks.l1 (k+1) rows (xn:Int) dense out (i:Int) (T:Int)=_;rw[sennitref21_Hunks.l1,if_neg (by omega),if_pos (by omega),k1 k (by omega),Option.bind_some,if_pos (by omega),gw1 (by omega)];exact k2 k (by omega))
        ·
         (obtain rfl:T=i:=by omega)
         have e:sh[T]'(by omega)=false:=by
          cases e:sh[T]'(by omega) with
          | false=>rfl
          | true=>exact(hend ⟨by omega,e⟩).elim
         rw[cutsGo_miss rows (by omega) e];have hnx:=ih (T+1) out (by omega) (by omega);(refine Gives.call (hTs hi) hnx fun k hk=>?_);show sennitref21_Hunks.l1 (k+1) rows (xn:Int) dense out (T:Int) (T:Int)=_;rw[sennitref21_Hunks.l1,if_pos (by omega),hk,Option.bind_some,if_neg (by decide),if_neg (by omega),gw1 (by omega)]
       have hrun : ∀ (m j:Nat),j+m=T→i≤j→Gives (fun k=>sennitref21_Hunks.l1 k rows (xn:Int) dense out (i:Int) (j:Int)) (out ++ cutsGo rows sh (r+1) i,0):=by
        intro m
        induction m with
        | zero =>
         intro j hj _;(obtain rfl:j=T:=by omega);exact hfin
        | succ m ihm =>
         intro j hj hij;(have hjn:j < rows.length:=by omega);have hs:=ref_shown hg (by have:=hsz (by intro e;rw[e] at hi;exact absurd hi (by simp));omega) hz hl dense xn (by omega) hjn;(rw[hsa j hjn,show sh[j]'(by omega)=true from (hin j hij (by omega)).2] at hs);(refine Gives.call hs (ihm (j+1) (by omega) (by omega)) fun k hk=>?_);show sennitref21_Hunks.l1 (k+1) rows (xn:Int) dense out (i:Int) (j:Int)=_;rw[sennitref21_Hunks.l1,if_pos (by omega),hk,Option.bind_some,if_pos rfl,gw1 (by omega)]
       (refine(hrun (T - i) i (by omega) (Nat.le_refl _)).step fun k=>?_);show sennitref21_Hunks.l0 (k+1) rows (xn:Int) dense out (i:Int)=_;rw[sennitref21_Hunks.l0,if_pos (by omega)]
      (· rw[cutsGo_end rows (by omega),List.append_nil];(refine Gives.of fun k=>?_);show sennitref21_Hunks.l0 (k+1) rows (xn:Int) dense out (i:Int)=_;rw[sennitref21_Hunks.l0,if_neg (by omega)])
    have h0:=hloop (rows.length+1) 0 [] (by omega) (Nat.le_refl _);(rw[List.nil_append] at h0);(have e:cutsH rows sh=cutsGo rows sh (rows.length+1) 0:=by rw[cutsH,hshl];rfl);rw[e];(refine Gives.call hm h0 fun k hk=>?_);show sennitref21_Hunks.j0 (k+1) rows (xn:Int) dense false=_;(rw[sennitref21_Hunks.j0,if_neg (by decide),hk,Option.bind_some,if_pos rfl];rfl)
 by_cases h0:x < 0
 (· (refine((hj true (.inl rfl)).eq (by rw[if_pos rfl,if_pos (.inl h0)])).same fun k=>?_);show sennitref21_Hunks.f k rows x dense=_;rw[sennitref21_Hunks.f,if_pos h0])
 ·
  by_cases h1:1000 < x
  (· (refine((hj true (.inl rfl)).eq (by rw[if_pos rfl,if_pos (.inr h1)])).same fun k=>?_);show sennitref21_Hunks.f k rows x dense=_;rw[sennitref21_Hunks.f,if_neg h0,decide_eq_true (show x > 1000 from h1)]);(· (refine((hj false (.inr ⟨h0,h1⟩)).eq (by rw[if_neg (by decide),if_neg (show ¬ (x < 0∨1000 < x) by omega)])).same fun k=>?_);show sennitref21_Hunks.f k rows x dense=_;rw[sennitref21_Hunks.f,if_neg h0,decide_eq_false (show ¬ x > 1000 by omega)])
theorem cutsH_len (rows:List RowH) (sh:List Bool):(cutsH rows sh).length≤sh.length+1:=by
 have:=cutsGo_len rows sh (sh.length+1) 0;exact this
end Go.Proofs.YthcnfflhejogfaaDoor.X
