/-
  Parts of one proof, one behind the other: XRn3, XRn4, XKit, XHeld, XBlk, XInternMath, XLcsMath, XPairMath, XGives, XConcatS, XConcat, XRefM, XDiffer, XPick1, XAlign1, XAlign2, XLcs1, XLcs2, XOpen, XRange, XIntern1.
-/
import Derived.Test.YtbbhdbeaikclcaaGreatBMergeChunks4
import Derived.IntWalk
import Derived.Lib.Strings
import Derived.BigRegion
import Derived.WalkMore
import Derived.Handy
import Derived.Lib.SliceRun
import Derived.Lib.Hide
import Derived.Outline
import Derived.OpenShut
import Derived.ProofKit
import Derived.Deep.Slices
import Derived.SizedLaws
import Derived.Lib.SmallJoins
import Derived.RangeFuncNested
import Derived.RangeFuncBound
import Derived.RangeFuncCalls
import Derived.RangeFuncLeaves
import Derived.RangeFuncOwn
import Derived.Maps.Own
import Derived.Maps.OwnSet
import Derived.Maps.OwnOps
import Derived.OwnWalk
import Derived.RangeFuncRecord
import Derived.Laws.LoneSync
set_option linter.unusedVariables false
set_option linter.unusedSimpArgs false
namespace Go.Proofs.YtbbhdbeaikclcaaGreat.X
open Go.RowKit Go.Proofs.YtbbhdbeaikclcaaGreatW.PrintWords Go.Proofs.YtbbhdbeaikclcaaGreatW.PrintLast Go.Proofs.YtbbhdbeaikclcaaGreatW.PrintMore
attribute [local go_sem] max2_int min2_int max_two min_two max_three min_three max_four min_four
def sennitref05_stable.l0:Nat→List (List Int)→Int→Int→Option (Bool)
  | 0,_,_,_=>none
  | k+1,x0,x1,x5=>if x5 < (x0.length:Int) then (if 0≤x5 then (if 0≤x1 then (if x1 < ((rd_L16 x0 x5).length:Int) then (if (rd (rd_L16 x0 x5) x1)=(-1) then (some false) else (sennitref05_stable.l0 k x0 x1 (wrap64 (x5+1)))) else (none)) else (none)) else (none)) else (some true)
def sennitref05_stable.f (k:Nat) (l0:List (List Int)) (a1:Int):Option (Bool):=sennitref05_stable.l0 k l0 a1 0
set_option maxHeartbeats 8000000 in
set_option maxRecDepth 100000 in
theorem sennitref05_stable.calls (k:Nat) (A0:Option Addr) (c0:Nat) (l0:List (List Int)) (a1:Int) (r:Bool) (w:World) (hr0:Kd.C (Kd.slice 3 (Kd.int .i64)) w A0 l0.length l0) (hc0:l0.length≤c0) (h:sennitref05_stable.f k l0 a1=some r) :
    Calls Tryz.prog 81 #[.slice A0 l0.length c0, .int .i64 a1] w fun e w'=>e = .returned (.bool r)∧Drawn0 w w':=by
 have HR0:=Aside0.mk hr0;have HC0:=Aside0.mk hc0;clear hr0 hc0;have H:(sennitref05_stable.l0 k l0 a1 0)=some r:=h;clear h;have H':=Aside0.mk H;clear H;go_enter Tryz.func81,Tryz.ntmps81;go_wp2
 go_loopg [5] k (fun kq v5 w' => ∃ (x5_1:Int),v5 = .int .i64 x5_1∧Aside0 (sennitref05_stable.l0 kq l0 a1 x5_1=some r)∧Aside0 (kq≤k)∧Drawn0 w w')
 (case atStart=>exact ⟨(0),rs_,H',⟨Nat.le_refl _⟩,d0_⟩)
 case round =>
  clear H';(try clear p2);obtain ⟨x5_1,rfl,HA,HK1,⟨m1,rfl⟩⟩:=hrel
  cases gk with
  | zero=>exact absurd HA.out (by simp [sennitref05_stable.l0])
  | succ k1 =>
   have H:=HA.out;clear HA;(simp only [sennitref05_stable.l0] at H)
   by_cases c3:x5_1 < (l0.length:Int)
   ·
    (rw [if_pos c3] at H);have c3b0:decide (x5_1 < (l0.length:Int))=true:=decide_eq_true c3;clear c3
    by_cases c4:0≤x5_1
    ·
     (rw [if_pos c4] at H);have c4b0:decide (0≤x5_1)=true:=decide_eq_true c4;clear c4
     by_cases c5:0≤a1
     ·
      (rw [if_pos c5] at H);have c5b0:decide (0≤a1)=true:=decide_eq_true c5;clear c5
      by_cases c6:a1 < ((rd_L16 l0 x5_1).length:Int)
      ·
       (rw [if_pos c6] at H);have c6b0:decide (a1 < ((rd_L16 l0 x5_1).length:Int))=true:=decide_eq_true c6;clear c6
       by_cases c7:(rd (rd_L16 l0 x5_1) a1)=(-1)
       (· (rw [if_pos c7] at H);have c7b0:((rd (rd_L16 l0 x5_1) a1) == (-1))=true:=beq_iff_eq.mpr c7;have c7b1:((rd (rd_L16 l0 x5_1) a1) != (-1))=false:=bne_eq_false_iff_eq.mpr c7;clear c7;obtain rfl:=Option.some.inj H;have p130:0≤(x5_1:Int):=dt_;have q130:x5_1 < (l0.length:Int):=dt_;obtain ⟨ad130,A130_0,c130_0,e130,hx130_0,hl130_0,hi130_0⟩:=at_L16 HR0.out x5_1 p130 q130;cases e130;have HR130_0:=Aside0.mk hi130_0;have HC130_0:=Aside0.mk hl130_0;clear hi130_0 hl130_0;replace p130:=eq_true p130;replace q130:=eq_true q130;have p131:0≤(a1:Int):=dt_;have q131:a1 < ((rd_L16 l0 x5_1).length:Int):=dt_;obtain ⟨ad131,e131,hx131_0⟩:=Kd.at_int HR130_0.out a1 p131 q131;cases e131;replace p131:=eq_true p131;replace q131:=eq_true q131;go_wp2;go_ret;exact ⟨by first | rfl | (simp;done) | (simp [*];done),d0_⟩)
       ·
        (rw [if_neg c7] at H);have c7b0:((rd (rd_L16 l0 x5_1) a1) == (-1))=false:=beq_eq_false_iff_ne.mpr c7;have c7b1:((rd (rd_L16 l0 x5_1) a1) != (-1))=true:=bne_iff_ne.mpr c7;have H':=Aside0.mk H;clear H;have p130:0≤(x5_1:Int):=dt_;have q130:x5_1 < (l0.length:Int):=dt_;obtain ⟨ad130,A130_0,c130_0,e130,hx130_0,hl130_0,hi130_0⟩:=at_L16 HR0.out x5_1 p130 q130;cases e130;have HR130_0:=Aside0.mk hi130_0;have HC130_0:=Aside0.mk hl130_0;clear hi130_0 hl130_0;replace p130:=eq_true p130;replace q130:=eq_true q130;have p131:0≤(a1:Int):=dt_;have q131:a1 < ((rd_L16 l0 x5_1).length:Int):=dt_;obtain ⟨ad131,e131,hx131_0⟩:=Kd.at_int HR130_0.out a1 p131 q131;cases e131;replace p131:=eq_true p131;replace q131:=eq_true q131;go_wp2
        go_roundg k1
        (case measure=>have:=HK1.out;omega);(case rel=>exact ⟨(wrap64 (x5_1+1)),rs_,H',⟨by have:=HK1.out;omega⟩,d0_⟩)
      (· (rw [if_neg c6] at H);exact absurd H (by simp))
     (· (rw [if_neg c5] at H);exact absurd H (by simp))
    (· (rw [if_neg c4] at H);exact absurd H (by simp))
   (· (rw [if_neg c3] at H);have c3b0:decide (x5_1 < (l0.length:Int))=false:=decide_eq_false c3;clear c3;obtain rfl:=Option.some.inj H;go_wp2;go_ret;exact ⟨by first | rfl | (simp;done) | (simp [*];done),d0_⟩)
def sennitref05_chunk.l0:Nat→List Int→Int→Bool→Int→Int→List (S45)→Bool→Int→Int→List (S45)→Option (Bool × Int × Int × (List (S45)))
  | 0,_,_,_,_,_,_,_,_,_,_=>none
  | k+1,x2,x8,x133000,x133001,x133002,x133003,x135000,x135001,x135002,x135003=>if x8 < (x2.length:Int) then (if (x133003.length:Int) > 0 then (if 0≤x8 then (if x8 < (x133003.length:Int) then (if x135003.length < 8796093022208 then (sennitref05_chunk.l0 k x2 (wrap64 (x8+1)) x133000 x133001 x133002 x133003 x135000 x135001 x135002 (x135003 ++ [(⟨(rd_T45 x133003 x8).f1,rd x2 x8⟩:S45)])) else (none)) else (none)) else (none)) else (if 0≤x8 then (if x135003.length < 8796093022208 then (sennitref05_chunk.l0 k x2 (wrap64 (x8+1)) x133000 x133001 x133002 x133003 x135000 x135001 x135002 (x135003 ++ [(⟨0,rd x2 x8⟩:S45)])) else (none)) else (none))) else (some (x135000,x135001,x135002,x135003))
def sennitref05_chunk.f (k:Nat) (a0_0:Bool) (a0_1:Int) (a0_2:Int) (l0_3:List (S45)) (a1:Int) (l2:List Int):Option (Bool × Int × Int × (List (S45))):=sennitref05_chunk.l0 k l2 0 a0_0 a0_1 a0_2 l0_3 false a0_2 a1 ([]:List (S45))
def sennitref05_chunk.T8:Bool × List (List Nat × List Nat):=(true,[([],[]),([0],[0]),([],[]),([],[]),([],[]),([3,4],[3,4]),([5],[5]),([2,6],[2,6]),([7],[7]),([1,8],[1,8]),([0,1,2,3,4,5,6,7,8,9],[]),([10,9,9,0,1,2,3,4,5,6,7,8,9],[9,10])])
def sennitref05_chunk.B8:List Nat:=[0,1,0,0,0,24,56,124,252,511,1023,2047]
theorem sennitref05_chunk.tab8:rtab .any (opsOf Tryz.f82 8)=sennitref05_chunk.T8:=by kernel_rfl
theorem sennitref05_chunk.bits8:waitsOk sennitref05_chunk.T8.2 sennitref05_chunk.B8=true:=by kernel_rfl
set_option maxHeartbeats 8000000 in
set_option maxRecDepth 100000 in
theorem sennitref05_chunk.calls (k:Nat) (a0_0:Bool) (a0_1:Int) (a0_2:Int) (A0_3:Option Addr) (c0_3:Nat) (l0_3:List (S45)) (a1:Int) (A2:Option Addr) (c2:Nat) (l2:List Int) (r1:Bool) (r2:Int) (r3:Int) (r4:List (S45)) (w:World) (hr0_3:Kd.C k45 w A0_3 l0_3.length l0_3) (hc0_3:l0_3.length≤c0_3) (hr2:Kd.C (Kd.int .i64) w A2 l2.length l2) (hc2:l2.length≤c2) (h:sennitref05_chunk.f k a0_0 a0_1 a0_2 l0_3 a1 l2=some (r1,r2,r3,r4)) :
    Calls Tryz.prog 82 #[.agg #[.bool a0_0, .int .i64 a0_1, .int .i64 a0_2, .slice A0_3 l0_3.length c0_3], .int .i64 a1, .slice A2 l2.length c2] w fun e w' => ∃ v3_:Value,e = .returned (.agg #[.bool r1, .int .i64 r2, .int .i64 r3,v3_])∧Kd.R k45 45 w' w.heap.size (fun _=>True) v3_ r4∧Below w.heap.size w w':=by
 have hu48:=Tryz.underlying48;have hu45:=Tryz.underlying45;have HR0_3:=Aside0.mk hr0_3;have HC0_3:=Aside0.mk hc0_3;clear hr0_3 hc0_3;have HR2:=Aside0.mk hr2;have HC2:=Aside0.mk hc2;clear hr2 hc2;have HB:=Aside0.mk (Below.refl w.heap.size w);have H:(sennitref05_chunk.l0 k l2 0 a0_0 a0_1 a0_2 l0_3 false a0_2 a1 ([]:List (S45)))=some (r1,r2,r3,r4):=h;clear h;have H':=Aside0.mk H;clear H;go_enter Tryz.func82,Tryz.ntmps82
 (go_wp2_with (first | ((with_reducible refine gate_dst (N:=3) rfl ?_);refine box_event ?hg (N:=3) ?hd (cs:=#[.bool a0_0, .int .i64 a0_1, .int .i64 a0_2, .slice A0_3 l0_3.length c0_3]) (t:=48) ?hr ?_;(case hd=>rfl);(case hg=>rfl);(case hr=>first | (go_simp;done) | (go_simp;rfl));intro gb132 hg w4 hbox hb;have n0_:=Aside0.mk (below_step bel_ hb);have n1_:=Aside0.mk (hbox);have n2_:=Aside0.mk ((by rw [hg];exact (below_size bel_):w.heap.size≤gb132));have n3_:=Aside0.mk ((by rw [hg];exact (below_size bel_):w.heap.size≤gb132));clear HB;have HB:=n0_;have BK132:=n1_;have GW132:=n2_;have GE132:=n3_;clear n0_ n1_ n2_ n3_;clear hb hbox hg) | ((with_reducible refine gate_dst (N:=6) rfl ?_);refine box_event ?hg (N:=6) ?hd (cs:=#[.bool false, .int .i64 0, .int .i64 0, .slice none 0 0]) (t:=48) ?hr ?_;(case hd=>rfl);(case hg=>rfl);(case hr=>first | (go_simp;done) | (go_simp;rfl));intro gb133 hg w5 hbox hb;have n0_:=Aside0.mk (blk_below (g:=gb132) (o := .cells #[.bool a0_0, .int .i64 a0_1, .int .i64 a0_2, .slice A0_3 l0_3.length c0_3] 48 (0,0)) (pK_ BK132.out) hb);have n1_:=Aside0.mk (below_step (by repeat (first | (with_reducible first | exact HB.out | apply below_alloc | apply pw_below_drewN | apply below_drew1 | refine below_set ?_ GE132.out) | exact HB.out)) hb);have n2_:=Aside0.mk (hbox);have n3_:=Aside0.mk ((by rw [hg];exact (below_size (by repeat (first | (with_reducible first | exact HB.out | apply below_alloc | apply pw_below_drewN | apply below_drew1 | refine below_set ?_ GE132.out) | exact HB.out))):w.heap.size≤gb133));have n4_:=Aside0.mk ((by rw [hg];exact (below_size (by repeat (first | (with_reducible first | exact HB.out | apply below_alloc | apply pw_below_drewN | apply below_drew1 | refine below_set ?_ GE132.out) | exact HB.out))):w.heap.size≤gb133));have n5_:=Aside0.mk ((by rw [hg];exact Nat.ne_of_lt (blk_lt (g:=gb132) (o := .cells #[.bool a0_0, .int .i64 a0_1, .int .i64 a0_2, .slice A0_3 l0_3.length c0_3] 48 (0,0)) (pK_ BK132.out)):gb132≠gb133));have n6_:=Aside0.mk ((by rw [hg];exact Nat.ne_of_gt (blk_lt (g:=gb132) (o := .cells #[.bool a0_0, .int .i64 a0_1, .int .i64 a0_2, .slice A0_3 l0_3.length c0_3] 48 (0,0)) (pK_ BK132.out)):gb133≠gb132));clear BK132;clear HB;have BK132:=n0_;have HB:=n1_;have BK133:=n2_;have GW133:=n3_;have GE133:=n4_;have NB132_133:=n5_;have NB133_132:=n6_;clear n0_ n1_ n2_ n3_ n4_ n5_ n6_;clear hb hbox hg;have hnb6:=NB132_133.out;have hnc6:=NB133_132.out;have hcz7_0:w5.cell? ⟨gb132,0,none⟩=some (.bool a0_0):=(blk_cell BK132.out 0).trans rfl;have hcz7_1:w5.cell? ⟨gb132,1,none⟩=some (.int .i64 a0_1):=(blk_cell BK132.out 1).trans rfl;have hcz7_2:w5.cell? ⟨gb132,2,none⟩=some (.int .i64 a0_2):=(blk_cell BK132.out 2).trans rfl;have hcz7_3:w5.cell? ⟨gb132,3,none⟩=some (.slice A0_3 l0_3.length c0_3):=(blk_cell BK132.out 3).trans rfl;have hfz7_0:=blk_frozen BK132.out 0;have hfz7_1:=blk_frozen BK132.out 1;have hfz7_2:=blk_frozen BK132.out 2;have hfz7_3:=blk_frozen BK132.out 3) | ((with_reducible refine gate_dst (N:=7) rfl ?_);refine box_event ?hg (N:=7) ?hd (cs:=#[.bool false, .int .i64 0, .int .i64 0, .slice none 0 0]) (t:=48) ?hr ?_;(case hd=>rfl);(case hg=>rfl);(case hr=>first | (go_simp;done) | (go_simp;rfl));intro gb134 hg w8 hbox hb;have n0_:=Aside0.mk (blk_below (g:=gb132) (o := .cells #[.bool a0_0, .int .i64 a0_1, .int .i64 a0_2, .slice A0_3 l0_3.length c0_3] 48 (0,0)) (pK_ BK132.out) hb);have n1_:=Aside0.mk (blk_below (g:=gb133) (o := .cells #[.bool false, .int .i64 0, .int .i64 0, .slice none 0 0] 48 (0,0)) (pK_ BK133.out) hb);have n2_:=Aside0.mk (below_step (by repeat (first | (with_reducible first | exact HB.out | apply below_alloc | apply pw_below_drewN | apply below_drew1 | refine below_set ?_ GE132.out | refine below_set ?_ GE133.out) | exact HB.out)) hb);have n3_:=Aside0.mk (hbox);have n4_:=Aside0.mk ((by rw [hg];exact (below_size (by repeat (first | (with_reducible first | exact HB.out | apply below_alloc | apply pw_below_drewN | apply below_drew1 | refine below_set ?_ GE132.out | refine below_set ?_ GE133.out) | exact HB.out))):w.heap.size≤gb134));have n5_:=Aside0.mk ((by rw [hg];exact (below_size (by repeat (first | (with_reducible first | exact HB.out | apply below_alloc | apply pw_below_drewN | apply below_drew1 | refine below_set ?_ GE132.out | refine below_set ?_ GE133.out) | exact HB.out))):w.heap.size≤gb134));have n6_:=Aside0.mk ((by rw [hg];exact Nat.ne_of_lt (blk_lt (g:=gb132) (o := .cells #[.bool a0_0, .int .i64 a0_1, .int .i64 a0_2, .slice A0_3 l0_3.length c0_3] 48 (0,0)) (pK_ BK132.out)):gb132≠gb134));have n7_:=Aside0.mk ((by rw [hg];exact Nat.ne_of_gt (blk_lt (g:=gb132) (o := .cells #[.bool a0_0, .int .i64 a0_1, .int .i64 a0_2, .slice A0_3 l0_3.length c0_3] 48 (0,0)) (pK_ BK132.out)):gb134≠gb132));have n8_:=Aside0.mk ((by rw [hg];exact Nat.ne_of_lt (blk_lt (g:=gb133) (o := .cells #[.bool false, .int .i64 0, .int .i64 0, .slice none 0 0] 48 (0,0)) (pK_ BK133.out)):gb133≠gb134));have n9_:=Aside0.mk ((by rw [hg];exact Nat.ne_of_gt (blk_lt (g:=gb133) (o := .cells #[.bool false, .int .i64 0, .int .i64 0, .slice none 0 0] 48 (0,0)) (pK_ BK133.out)):gb134≠gb133));clear BK132;clear BK133;clear HB;have BK132:=n0_;have BK133:=n1_;have HB:=n2_;have BK134:=n3_;have GW134:=n4_;have GE134:=n5_;have NB132_134:=n6_;have NB134_132:=n7_;have NB133_134:=n8_;have NB134_133:=n9_;clear n0_ n1_ n2_ n3_ n4_ n5_ n6_ n7_ n8_ n9_;clear hb hbox hg;have hnb9:=NB134_132.out;have hnc9:=NB132_134.out;have hnb10:=NB134_133.out;have hnc10:=NB133_134.out;have hcz11_0:w8.cell? ⟨gb134,0,none⟩=some (.bool false):=(blk_cell BK134.out 0).trans rfl;have hcz11_1:w8.cell? ⟨gb134,1,none⟩=some (.int .i64 0):=(blk_cell BK134.out 1).trans rfl;have hcz11_2:w8.cell? ⟨gb134,2,none⟩=some (.int .i64 0):=(blk_cell BK134.out 2).trans rfl;have hcz11_3:w8.cell? ⟨gb134,3,none⟩=some (.slice none 0 0):=(blk_cell BK134.out 3).trans rfl;have hfz11_0:=blk_frozen BK134.out 0;have hfz11_1:=blk_frozen BK134.out 1;have hfz11_2:=blk_frozen BK134.out 2;have hfz11_3:=blk_frozen BK134.out 3)))
 go_loopg [8] k (fun kq v8 w' => ∃ (x8_1:Int) (x135003_1:List (S45)) (u135003:Value),v8 = .int .i64 x8_1∧Aside0 (sennitref05_chunk.l0 kq l2 x8_1 a0_0 a0_1 a0_2 l0_3 false a0_2 a1 x135003_1=some (r1,r2,r3,r4))∧Aside0 (kq≤k)∧Aside0 (Kd.R k45 45 w' w.heap.size (fun _=>True) u135003 x135003_1)∧Aside0 (w'.heap[gb132]? = some (.cells #[.bool a0_0, .int .i64 a0_1, .int .i64 a0_2,(.slice A0_3 l0_3.length c0_3)] 48 (0,0)))∧Aside0 (w'.heap[gb133]? = some (.cells #[.bool false, .int .i64 0, .int .i64 0,(.slice none 0 0)] 48 (0,0)))∧Aside0 (w'.heap[gb134]? = some (.cells #[.bool false, .int .i64 a0_2, .int .i64 a1,u135003] 48 (0,0)))∧Aside0 (Below w.heap.size w w'))
 (case atStart=>exact ⟨(0),(([]:List (S45))),(.slice none 0 0),rs_,H',⟨Nat.le_refl _⟩,⟨by first | exact Kd.R_nil _ _ _ _ _ | exact Kd.N_nil _ _ _ _ _ | exact Kd.V_nil _ _ _ _ _ | exact Kd.Q_nil _ _ _ _ _ | exact Kd.S_nil _ _ _ _ _⟩,⟨by (with_reducible repeat (first | refine blk_drewN ?_ _ | refine blk_drew ?_ | refine blk_alloc ?_ _));refine blk_far ?_ NB132_134.out _;(with_reducible repeat (first | refine blk_drewN ?_ _ | refine blk_drew ?_ | refine blk_alloc ?_ _));refine blk_far ?_ NB132_134.out _;(with_reducible repeat (first | refine blk_drewN ?_ _ | refine blk_drew ?_ | refine blk_alloc ?_ _));refine blk_far ?_ NB132_134.out _;(with_reducible repeat (first | refine blk_drewN ?_ _ | refine blk_drew ?_ | refine blk_alloc ?_ _));refine blk_far ?_ NB132_134.out _;(with_reducible repeat (first | refine blk_drewN ?_ _ | refine blk_drew ?_ | refine blk_alloc ?_ _));exact BK132.out⟩,⟨by (with_reducible repeat (first | refine blk_drewN ?_ _ | refine blk_drew ?_ | refine blk_alloc ?_ _));refine blk_far ?_ NB133_134.out _;(with_reducible repeat (first | refine blk_drewN ?_ _ | refine blk_drew ?_ | refine blk_alloc ?_ _));refine blk_far ?_ NB133_134.out _;(with_reducible repeat (first | refine blk_drewN ?_ _ | refine blk_drew ?_ | refine blk_alloc ?_ _));refine blk_far ?_ NB133_134.out _;(with_reducible repeat (first | refine blk_drewN ?_ _ | refine blk_drew ?_ | refine blk_alloc ?_ _));refine blk_far ?_ NB133_134.out _;(with_reducible repeat (first | refine blk_drewN ?_ _ | refine blk_drew ?_ | refine blk_alloc ?_ _));exact BK133.out⟩,⟨by (with_reducible repeat (first | refine blk_drewN ?_ _ | refine blk_drew ?_ | refine blk_alloc ?_ _));refine blk_put (cs:=#[.bool false, .int .i64 a0_2, .int .i64 a1, .slice none 0 0]) ?_ 3 _ rfl;(with_reducible repeat (first | refine blk_drewN ?_ _ | refine blk_drew ?_ | refine blk_alloc ?_ _));refine blk_put (cs:=#[.bool false, .int .i64 a0_2, .int .i64 0, .slice none 0 0]) ?_ 2 _ rfl;(with_reducible repeat (first | refine blk_drewN ?_ _ | refine blk_drew ?_ | refine blk_alloc ?_ _));refine blk_put (cs:=#[.bool false, .int .i64 0, .int .i64 0, .slice none 0 0]) ?_ 1 _ rfl;(with_reducible repeat (first | refine blk_drewN ?_ _ | refine blk_drew ?_ | refine blk_alloc ?_ _));refine blk_put (cs:=#[.bool false, .int .i64 0, .int .i64 0, .slice none 0 0]) ?_ 0 _ rfl;(with_reducible repeat (first | refine blk_drewN ?_ _ | refine blk_drew ?_ | refine blk_alloc ?_ _));exact BK134.out⟩,⟨by repeat (first | (with_reducible first | exact HB.out | apply below_alloc | apply pw_below_drewN | apply below_drew1 | refine below_set ?_ GE132.out | refine below_set ?_ GE133.out | refine below_set ?_ GE134.out) | exact HB.out)⟩⟩)
 case round =>
  clear H';(try clear c1);(try clear c2);(try clear p2);(try clear c6);(try clear c8);(try clear c9);(try clear c10);(try clear hcz11_0);(try clear hcz11_1);(try clear hcz11_2);(try clear hcz11_3);(try clear hcz7_0);(try clear hcz7_1);(try clear hcz7_2);(try clear hcz7_3);(try clear hfz11_0);(try clear hfz11_1);(try clear hfz11_2);(try clear hfz11_3);(try clear hfz7_0);(try clear hfz7_1);(try clear hfz7_2);(try clear hfz7_3);obtain ⟨x8_1,x135003_1,u135003,rfl,HA,HK1,HO_135003,BK132,BK133,BK134,HB⟩:=hrel
  cases gk with
  | zero=>exact absurd HA.out (by simp [sennitref05_chunk.l0])
  | succ k1 =>
   have H:=HA.out;clear HA;(simp only [sennitref05_chunk.l0] at H)
   by_cases c12:x8_1 < (l2.length:Int)
   ·
    (rw [if_pos c12] at H);have c12b0:decide (x8_1 < (l2.length:Int))=true:=decide_eq_true c12;clear c12
    by_cases c13:(l0_3.length:Int) > 0
    ·
     (rw [if_pos c13] at H);have c13b0:decide (0 < (l0_3.length:Int))=true:=decide_eq_true c13;have c13b1:decide (0 < l0_3.length)=true:=decide_eq_true (by omega);clear c13
     by_cases c14:0≤x8_1
     ·
      (rw [if_pos c14] at H);have c14b0:decide (0≤x8_1)=true:=decide_eq_true c14;clear c14
      by_cases c15:x8_1 < (l0_3.length:Int)
      ·
       (rw [if_pos c15] at H);have c15b0:decide (x8_1 < (l0_3.length:Int))=true:=decide_eq_true c15;clear c15
       by_cases c16:x135003_1.length < 8796093022208
       ·
        (rw [if_pos c16] at H);have LMc16:=Aside0.mk c16;clear c16;obtain ⟨y137,hy137⟩ : ∃ y_:List (S45),y_=(x135003_1 ++ [(⟨(rd_T45 l0_3 x8_1).f1,rd l2 x8_1⟩:S45)]):=⟨_,rfl⟩;(replace H:(sennitref05_chunk.l0 k1 l2 (wrap64 (x8_1+1)) a0_0 a0_1 a0_2 l0_3 false a0_2 a1 y137)=some (r1,r2,r3,r4):=by first | (rw [hy137];with_reducible exact H) | (have H2_:=(Option.bind_some _ _).symm.trans H;rw [hy137];with_reducible exact H2_) | (have H2_:=(Option.bind_some _ _).symm.trans H;with_reducible exact H2_) | with_reducible exact H | (rw [hy137];exact H) | exact H);have Ny137:=Aside0.mk hy137;clear hy137;have H':=Aside0.mk H;clear H;have hnb17:=NB132_133.out;have hnc17:=NB133_132.out;have hnb18:=NB132_134.out;have hnc18:=NB134_132.out;have hcz19_0:wr.cell? ⟨gb132,0,none⟩=some (.bool a0_0):=(blk_cell BK132.out 0).trans rfl;have hcz19_1:wr.cell? ⟨gb132,1,none⟩=some (.int .i64 a0_1):=(blk_cell BK132.out 1).trans rfl;have hcz19_2:wr.cell? ⟨gb132,2,none⟩=some (.int .i64 a0_2):=(blk_cell BK132.out 2).trans rfl;have hcz19_3:wr.cell? ⟨gb132,3,none⟩=some (.slice A0_3 l0_3.length c0_3):=(blk_cell BK132.out 3).trans rfl;have hfz19_0:=blk_frozen BK132.out 0;have hfz19_1:=blk_frozen BK132.out 1;have hfz19_2:=blk_frozen BK132.out 2;have hfz19_3:=blk_frozen BK132.out 3;have p135:0≤(x8_1:Int):=dt_;have q135:x8_1 < (l0_3.length:Int):=dt_;obtain ⟨ad135,e135,hx135_0,hx135_1⟩:=at_T45 HR0_3.out x8_1 p135 q135;cases e135;replace hx135_0:=(HB.out.cell (World.block_lt_of_cell? w _ hx135_0)).trans hx135_0;replace hx135_1:=(HB.out.cell (World.block_lt_of_cell? w _ hx135_1)).trans hx135_1;replace p135:=eq_true p135;replace q135:=eq_true q135;(try go_wp2);have n0_:=Aside0.mk (Kd.R_drew HO_135003.out);have n1_:=Aside0.mk (blk_drew BK132.out);have n2_:=Aside0.mk (blk_drew BK133.out);have n3_:=Aside0.mk (blk_drew BK134.out);have n4_:=Aside0.mk (below_drew1 HB.out);clear HO_135003;clear BK132;clear BK133;clear BK134;clear HB;have HO_135003:=n0_;have BK132:=n1_;have BK133:=n2_;have BK134:=n3_;have HB:=n4_;clear n0_ n1_ n2_ n3_ n4_;have p136:0≤(x8_1:Int):=dt_;have q136:x8_1 < (l2.length:Int):=dt_;obtain ⟨ad136,e136,hx136_0⟩:=Kd.at_int HR2.out x8_1 p136 q136;have hw136_0:=hx136_0;cases e136;replace hx136_0:=(HB.out.cell (World.block_lt_of_cell? w _ hx136_0)).trans hx136_0;replace p136:=eq_true p136;replace q136:=eq_true q136;(refine start_ (n:=12) (S:=fun w'=>w'.cell? ⟨gb134,0,none⟩=some (.bool false)∧w'.cell? ⟨gb134,1,none⟩=some (.int .i64 a0_2)∧w'.cell? ⟨gb134,2,none⟩=some (.int .i64 a1)∧w'.cell? ⟨gb134,3,none⟩=some (u135003)∧w'.cell? (ad136.add (x8_1).toNat)=some (.int .i64 (rd l2 x8_1))) (ds:=[11]) #[false,false,false,false,false,false,false,false,false,false,false,false] (by kernel_rfl) rfl rfl ⟨(blk_cell BK134.out 0).trans rfl,(blk_cell BK134.out 1).trans rfl,(blk_cell BK134.out 2).trans rfl,(blk_cell BK134.out 3).trans rfl,((HB.out.cell (World.block_lt_of_cell? w _ hw136_0)).trans hw136_0)⟩ (fun hHeld=>?_);refine with_tabW sennitref05_chunk.tab8 sennitref05_chunk.bits8 (fun HT_ HW_=>?_));(generalize wr.drew=w20 at HO_135003 BK132 BK133 BK134 HB hx136_0 hHeld ⊢);refine pq_ (i:=0) (N:=some 32) (hc:=any_of HT_.out (by kernel_rfl)) #[true,false,false,false,false,false,false,false,false,false,false,false] ?_;refine pq_ (i:=2) (N:=some 34) (hc:=any_of HT_.out (by kernel_rfl)) #[true,false,true,false,false,false,false,false,false,false,false,false] ?_;refine pq_ (i:=3) (N:=some 35) (hc:=any_of HT_.out (by kernel_rfl)) #[true,false,true,true,false,false,false,false,false,false,false,false] ?_;refine pq_ (i:=4) (N:=some 36) (hc:=any_of HT_.out (by kernel_rfl)) #[true,false,true,true,true,false,false,false,false,false,false,false] ?_;refine pq_ (i:=5) (N:=some 37) (hc:=any_of HT_.out (by kernel_rfl)) #[true,false,true,true,true,true,false,false,false,false,false,false] ?_;refine tq_ (i:=1) (N:=some 33) (hc:=take_ofW HT_.out HW_.out (by kernel_rfl)) #[true,true,true,true,true,true,false,false,false,false,false,false] hHeld ?_
        refine tq_ (i:=6) (N:=some 38) (hc:=take_ofW HT_.out HW_.out (by kernel_rfl)) #[true,true,true,true,true,true,true,false,false,false,false,false] hHeld ?_;refine pq_ (i:=7) (N:=some 39) (hc:=any_of HT_.out (by kernel_rfl)) #[true,true,true,true,true,true,true,true,false,false,false,false] ?_;refine one_ (i:=8) (N:=some 40) #[true,true,true,true,true,true,true,true,true,false,false,false] rfl rfl (one_of HT_.out (by kernel_rfl)) (by decide) (fun K hK=>?_);refine value_ (w1:=?_) (v:=?_) (by rfl) rfl ?_ ?_;rotate_left 2
        ·
         go_simp;constructor;(· rfl);(· rfl)
        refine hK.out _ _ ⟨(blk_cell (blk_alloc BK134.out _) 0).trans rfl,(blk_cell (blk_alloc BK134.out _) 1).trans rfl,(blk_cell (blk_alloc BK134.out _) 2).trans rfl,(blk_cell (blk_alloc BK134.out _) 3).trans rfl,(World.cell?_alloc_lt _ _ _ (World.block_lt_of_cell? _ _ (((HB.out.cell (World.block_lt_of_cell? w _ hw136_0)).trans hw136_0)))).trans (((HB.out.cell (World.block_lt_of_cell? w _ hw136_0)).trans hw136_0))⟩ (fun hHeld=>?_);clear hK K;refine nq_ (N:=some 40) ?_;refine one_ (i:=9) (N:=some 41) #[true,true,true,true,true,true,true,true,true,true,false,false] rfl rfl (one_of HT_.out (by kernel_rfl)) (by decide) (fun K hK=>?_);refine Kd.R_append_step k45 (w0:=w) w.heap.size (by rfl) (.tmp 33) (.tmp 40) 46 45 (.agg #[(.int .i64 0),(.int .i64 0)]) 16 rfl Tryz.underlying46 info45 rfl (by decide) (by omega) u135003 x135003_1 (⟨(rd_T45 l0_3 x8_1).f1,rd l2 x8_1⟩:S45) [.int .i64 ((rd_T45 l0_3 x8_1).f1), .int .i64 (rd l2 x8_1)] (fun _=>True) (fun _=>False) rfl rfl ?aP (fun _ hk=>hk.elim) ?aF ?aO ?aB ?aS ?aL ?_;(case aP=>exact k45_mkM _ _ _ (⟨(rd_T45 l0_3 x8_1).f1,rd l2 x8_1⟩:S45));(case aB=>exact (by repeat (first | (with_reducible first | exact HB.out | apply below_alloc | apply pw_below_drewN | apply below_drew1 | refine below_set ?_ GE132.out | refine below_set ?_ GE133.out | refine below_set ?_ GE134.out) | exact HB.out)));(case aF=>exact (fun _ _=>trivial));(case aO=>exact (pR_ HO_135003.out));(case aS=>exact (below_size (by repeat (first | (with_reducible first | exact HB.out | apply below_alloc | apply pw_below_drewN | apply below_drew1 | refine below_set ?_ GE132.out | refine below_set ?_ GE133.out | refine below_set ?_ GE134.out) | exact HB.out))));(case aL=>have:=LMc16.out;omega);intro v138 w21 ho hb hg hat;(rw [← Ny137.out] at ho);have n0_:=Aside0.mk (blk_grown (g:=gb132) (o := .cells #[.bool a0_0, .int .i64 a0_1, .int .i64 a0_2, .slice (some ad135) l0_3.length c0_3] 48 (0,0)) (pK_ BK132.out) hg (Kd.R_ne HO_135003.out BK132.out (by decide)));have n1_:=Aside0.mk (blk_grown (g:=gb133) (o := .cells #[.bool false, .int .i64 0, .int .i64 0, .slice none 0 0] 48 (0,0)) (pK_ BK133.out) hg (Kd.R_ne HO_135003.out BK133.out (by decide)));have n2_:=Aside0.mk (blk_grown (g:=gb134) (o := .cells #[.bool false, .int .i64 a0_2, .int .i64 a1,u135003] 48 (0,0)) (pK_ BK134.out) hg (Kd.R_ne HO_135003.out BK134.out (by decide)));have n3_:=Aside0.mk (hb);have n4_:=Aside0.mk (ho);clear BK132;clear BK133;clear BK134;clear HB;clear HO_135003;have BK132:=n0_;have BK133:=n1_;have BK134:=n2_;have HB:=n3_;have HO139:=n4_;clear n0_ n1_ n2_ n3_ n4_;clear ho hb hg hat;obtain ⟨Ao22,co22,eo22⟩:=Kd.R_slice HO139.out;(first | subst eo22 | (injection eo22 with f1_ f2_ f3_;have f4_:=f1_.symm;have f5_:=f3_.symm;clear f1_ f2_ f3_;subst f4_;subst f5_));refine hK.out _ _ ⟨(blk_cell BK134.out 0).trans rfl,(blk_cell BK134.out 1).trans rfl,(blk_cell BK134.out 2).trans rfl,(blk_cell BK134.out 3).trans rfl,((HB.out.cell (World.block_lt_of_cell? w _ hw136_0)).trans hw136_0)⟩ (fun hHeld=>?_);clear hK K;refine nq_ (N:=some 41) ?_;refine pq_ (i:=10) (N:=some 42) (hc:=any_of HT_.out (by kernel_rfl)) #[true,true,true,true,true,true,true,true,true,true,true,false] ?_;refine last_ (i:=11) (N:=none) #[true,true,true,true,true,true,true,true,true,true,true,true] rfl rfl (one_of HT_.out (by kernel_rfl)) (by decide) (fun K hK=>?_);have hs23:w21.cell? ⟨gb134,3,none⟩=some (u135003):=(blk_cell BK134.out 3).trans rfl;have hfs23:=blk_frozen BK134.out 3;have hns23_0:=NB132_134.out;have hns23_1:=NB133_134.out;have hms23_0:=NB134_132.out;have hms23_1:=NB134_133.out;refine skip_ (w1:=?_) (by rfl) rfl ?_ ?_;rotate_left;(· go_simp;rfl);refine hK.out _ _ ?_;clear hK K;refine done_ (done_of HT_.out (by kernel_rfl)) ?_;(try go_wp2)
        go_roundg k1
        (case measure=>have:=HK1.out;omega);(case rel=>exact ⟨(wrap64 (x8_1+1)),(y137),(.slice Ao22 y137.length co22),rs_,H',⟨by have:=HK1.out;omega⟩,⟨by (with_reducible repeat (first | apply Kd.R_alloc | apply Kd.R_drewN | apply Kd.R_drew));exact Kd.R_mono (Kd.R_far (p:=⟨gb134,3,none⟩) (Kd.R_types HO139.out BK134.out (by decide)) (fun _ hk=>hk.2) (.slice Ao22 y137.length co22)) (fun _ hk=>trivial)⟩,⟨by (with_reducible repeat (first | refine blk_drewN ?_ _ | refine blk_drew ?_ | refine blk_alloc ?_ _));refine blk_far ?_ NB132_134.out _;(with_reducible repeat (first | refine blk_drewN ?_ _ | refine blk_drew ?_ | refine blk_alloc ?_ _));exact BK132.out⟩,⟨by (with_reducible repeat (first | refine blk_drewN ?_ _ | refine blk_drew ?_ | refine blk_alloc ?_ _));refine blk_far ?_ NB133_134.out _;(with_reducible repeat (first | refine blk_drewN ?_ _ | refine blk_drew ?_ | refine blk_alloc ?_ _));exact BK133.out⟩,⟨by (with_reducible repeat (first | refine blk_drewN ?_ _ | refine blk_drew ?_ | refine blk_alloc ?_ _));refine blk_put (cs:=#[.bool false, .int .i64 a0_2, .int .i64 a1,u135003]) ?_ 3 _ rfl;(with_reducible repeat (first | refine blk_drewN ?_ _ | refine blk_drew ?_ | refine blk_alloc ?_ _));exact BK134.out⟩,⟨by repeat (first | (with_reducible first | exact HB.out | apply below_alloc | apply pw_below_drewN | apply below_drew1 | refine below_set ?_ GE132.out | refine below_set ?_ GE133.out | refine below_set ?_ GE134.out) | exact HB.out)⟩⟩)
       (· (rw [if_neg c16] at H);exact absurd H (by simp))
      (· (rw [if_neg c15] at H);exact absurd H (by simp))
     (· (rw [if_neg c14] at H);exact absurd H (by simp))
    ·
     (rw [if_neg c13] at H);have c13b0:decide (0 < (l0_3.length:Int))=false:=decide_eq_false c13;have c13b1:decide (0 < l0_3.length)=false:=decide_eq_false (by omega);clear c13
     by_cases c24:0≤x8_1
     ·
      (rw [if_pos c24] at H);have c24b0:decide (0≤x8_1)=true:=decide_eq_true c24;clear c24
      by_cases c25:x135003_1.length < 8796093022208
      ·
       (rw [if_pos c25] at H);have LMc25:=Aside0.mk c25;clear c25;obtain ⟨y141,hy141⟩ : ∃ y_:List (S45),y_=(x135003_1 ++ [(⟨0,rd l2 x8_1⟩:S45)]):=⟨_,rfl⟩;(replace H:(sennitref05_chunk.l0 k1 l2 (wrap64 (x8_1+1)) a0_0 a0_1 a0_2 l0_3 false a0_2 a1 y141)=some (r1,r2,r3,r4):=by first | (rw [hy141];with_reducible exact H) | (have H2_:=(Option.bind_some _ _).symm.trans H;rw [hy141];with_reducible exact H2_) | (have H2_:=(Option.bind_some _ _).symm.trans H;with_reducible exact H2_) | with_reducible exact H | (rw [hy141];exact H) | exact H);have Ny141:=Aside0.mk hy141;clear hy141;have H':=Aside0.mk H;clear H;have hnb26:=NB132_133.out;have hnc26:=NB133_132.out;have hnb27:=NB132_134.out;have hnc27:=NB134_132.out;have hcz28_0:wr.cell? ⟨gb132,0,none⟩=some (.bool a0_0):=(blk_cell BK132.out 0).trans rfl;have hcz28_1:wr.cell? ⟨gb132,1,none⟩=some (.int .i64 a0_1):=(blk_cell BK132.out 1).trans rfl;have hcz28_2:wr.cell? ⟨gb132,2,none⟩=some (.int .i64 a0_2):=(blk_cell BK132.out 2).trans rfl;have hcz28_3:wr.cell? ⟨gb132,3,none⟩=some (.slice A0_3 l0_3.length c0_3):=(blk_cell BK132.out 3).trans rfl;have hfz28_0:=blk_frozen BK132.out 0;have hfz28_1:=blk_frozen BK132.out 1;have hfz28_2:=blk_frozen BK132.out 2;have hfz28_3:=blk_frozen BK132.out 3;(try go_wp2);have n0_:=Aside0.mk (Kd.R_drew HO_135003.out);have n1_:=Aside0.mk (blk_drew BK132.out);have n2_:=Aside0.mk (blk_drew BK133.out);have n3_:=Aside0.mk (blk_drew BK134.out);have n4_:=Aside0.mk (below_drew1 HB.out);clear HO_135003;clear BK132;clear BK133;clear BK134;clear HB;have HO_135003:=n0_;have BK132:=n1_;have BK133:=n2_;have BK134:=n3_;have HB:=n4_;clear n0_ n1_ n2_ n3_ n4_;have p140:0≤(x8_1:Int):=dt_;have q140:x8_1 < (l2.length:Int):=dt_;obtain ⟨ad140,e140,hx140_0⟩:=Kd.at_int HR2.out x8_1 p140 q140;have hw140_0:=hx140_0;cases e140;replace hx140_0:=(HB.out.cell (World.block_lt_of_cell? w _ hx140_0)).trans hx140_0;replace p140:=eq_true p140;replace q140:=eq_true q140;(refine start_ (n:=12) (S:=fun w'=>w'.cell? ⟨gb134,0,none⟩=some (.bool false)∧w'.cell? ⟨gb134,1,none⟩=some (.int .i64 a0_2)∧w'.cell? ⟨gb134,2,none⟩=some (.int .i64 a1)∧w'.cell? ⟨gb134,3,none⟩=some (u135003)∧w'.cell? (ad140.add (x8_1).toNat)=some (.int .i64 (rd l2 x8_1))) (ds:=[11]) #[false,false,false,false,false,false,false,false,false,false,false,false] (by kernel_rfl) rfl rfl ⟨(blk_cell BK134.out 0).trans rfl,(blk_cell BK134.out 1).trans rfl,(blk_cell BK134.out 2).trans rfl,(blk_cell BK134.out 3).trans rfl,((HB.out.cell (World.block_lt_of_cell? w _ hw140_0)).trans hw140_0)⟩ (fun hHeld=>?_);refine with_tabW sennitref05_chunk.tab8 sennitref05_chunk.bits8 (fun HT_ HW_=>?_));(generalize wr.drew=w29 at HO_135003 BK132 BK133 BK134 HB hx140_0 hHeld ⊢);refine pq_ (i:=0) (N:=some 32) (hc:=any_of HT_.out (by kernel_rfl)) #[true,false,false,false,false,false,false,false,false,false,false,false] ?_;refine pq_ (i:=2) (N:=some 34) (hc:=any_of HT_.out (by kernel_rfl)) #[true,false,true,false,false,false,false,false,false,false,false,false] ?_;refine pq_ (i:=3) (N:=some 35) (hc:=any_of HT_.out (by kernel_rfl)) #[true,false,true,true,false,false,false,false,false,false,false,false] ?_;refine pq_ (i:=4) (N:=some 36) (hc:=any_of HT_.out (by kernel_rfl)) #[true,false,true,true,true,false,false,false,false,false,false,false] ?_;refine pq_ (i:=5) (N:=some 37) (hc:=any_of HT_.out (by kernel_rfl)) #[true,false,true,true,true,true,false,false,false,false,false,false] ?_;refine tq_ (i:=1) (N:=some 33) (hc:=take_ofW HT_.out HW_.out (by kernel_rfl)) #[true,true,true,true,true,true,false,false,false,false,false,false] hHeld ?_;refine tq_ (i:=6) (N:=some 38) (hc:=take_ofW HT_.out HW_.out (by kernel_rfl)) #[true,true,true,true,true,true,true,false,false,false,false,false] hHeld ?_
       refine pq_ (i:=7) (N:=some 39) (hc:=any_of HT_.out (by kernel_rfl)) #[true,true,true,true,true,true,true,true,false,false,false,false] ?_;refine one_ (i:=8) (N:=some 40) #[true,true,true,true,true,true,true,true,true,false,false,false] rfl rfl (one_of HT_.out (by kernel_rfl)) (by decide) (fun K hK=>?_);refine value_ (w1:=?_) (v:=?_) (by rfl) rfl ?_ ?_;rotate_left 2
       ·
        go_simp;constructor;(· rfl);(· rfl)
       refine hK.out _ _ ⟨(blk_cell (blk_alloc BK134.out _) 0).trans rfl,(blk_cell (blk_alloc BK134.out _) 1).trans rfl,(blk_cell (blk_alloc BK134.out _) 2).trans rfl,(blk_cell (blk_alloc BK134.out _) 3).trans rfl,(World.cell?_alloc_lt _ _ _ (World.block_lt_of_cell? _ _ (((HB.out.cell (World.block_lt_of_cell? w _ hw140_0)).trans hw140_0)))).trans (((HB.out.cell (World.block_lt_of_cell? w _ hw140_0)).trans hw140_0))⟩ (fun hHeld=>?_);clear hK K;refine nq_ (N:=some 40) ?_;refine one_ (i:=9) (N:=some 41) #[true,true,true,true,true,true,true,true,true,true,false,false] rfl rfl (one_of HT_.out (by kernel_rfl)) (by decide) (fun K hK=>?_);refine Kd.R_append_step k45 (w0:=w) w.heap.size (by rfl) (.tmp 33) (.tmp 40) 46 45 (.agg #[(.int .i64 0),(.int .i64 0)]) 16 rfl Tryz.underlying46 info45 rfl (by decide) (by omega) u135003 x135003_1 (⟨0,rd l2 x8_1⟩:S45) [.int .i64 0, .int .i64 (rd l2 x8_1)] (fun _=>True) (fun _=>False) rfl rfl ?aP (fun _ hk=>hk.elim) ?aF ?aO ?aB ?aS ?aL ?_;(case aP=>exact k45_mkM _ _ _ (⟨0,rd l2 x8_1⟩:S45));(case aB=>exact (by repeat (first | (with_reducible first | exact HB.out | apply below_alloc | apply pw_below_drewN | apply below_drew1 | refine below_set ?_ GE132.out | refine below_set ?_ GE133.out | refine below_set ?_ GE134.out) | exact HB.out)));(case aF=>exact (fun _ _=>trivial));(case aO=>exact (pR_ HO_135003.out));(case aS=>exact (below_size (by repeat (first | (with_reducible first | exact HB.out | apply below_alloc | apply pw_below_drewN | apply below_drew1 | refine below_set ?_ GE132.out | refine below_set ?_ GE133.out | refine below_set ?_ GE134.out) | exact HB.out))));(case aL=>have:=LMc25.out;omega);intro v142 w30 ho hb hg hat;(rw [← Ny141.out] at ho);have n0_:=Aside0.mk (blk_grown (g:=gb132) (o := .cells #[.bool a0_0, .int .i64 a0_1, .int .i64 a0_2, .slice A0_3 l0_3.length c0_3] 48 (0,0)) (pK_ BK132.out) hg (Kd.R_ne HO_135003.out BK132.out (by decide)));have n1_:=Aside0.mk (blk_grown (g:=gb133) (o := .cells #[.bool false, .int .i64 0, .int .i64 0, .slice none 0 0] 48 (0,0)) (pK_ BK133.out) hg (Kd.R_ne HO_135003.out BK133.out (by decide)));have n2_:=Aside0.mk (blk_grown (g:=gb134) (o := .cells #[.bool false, .int .i64 a0_2, .int .i64 a1,u135003] 48 (0,0)) (pK_ BK134.out) hg (Kd.R_ne HO_135003.out BK134.out (by decide)));have n3_:=Aside0.mk (hb);have n4_:=Aside0.mk (ho);clear BK132;clear BK133;clear BK134;clear HB;clear HO_135003;have BK132:=n0_;have BK133:=n1_;have BK134:=n2_;have HB:=n3_;have HO143:=n4_;clear n0_ n1_ n2_ n3_ n4_;clear ho hb hg hat;obtain ⟨Ao31,co31,eo31⟩:=Kd.R_slice HO143.out;(first | subst eo31 | (injection eo31 with f1_ f2_ f3_;have f4_:=f1_.symm;have f5_:=f3_.symm;clear f1_ f2_ f3_;subst f4_;subst f5_));refine hK.out _ _ ⟨(blk_cell BK134.out 0).trans rfl,(blk_cell BK134.out 1).trans rfl,(blk_cell BK134.out 2).trans rfl,(blk_cell BK134.out 3).trans rfl,((HB.out.cell (World.block_lt_of_cell? w _ hw140_0)).trans hw140_0)⟩ (fun hHeld=>?_);clear hK K;refine nq_ (N:=some 41) ?_;refine pq_ (i:=10) (N:=some 42) (hc:=any_of HT_.out (by kernel_rfl)) #[true,true,true,true,true,true,true,true,true,true,true,false] ?_;refine last_ (i:=11) (N:=none) #[true,true,true,true,true,true,true,true,true,true,true,true] rfl rfl (one_of HT_.out (by kernel_rfl)) (by decide) (fun K hK=>?_);have hs32:w30.cell? ⟨gb134,3,none⟩=some (u135003):=(blk_cell BK134.out 3).trans rfl;have hfs32:=blk_frozen BK134.out 3;have hns32_0:=NB132_134.out;have hns32_1:=NB133_134.out;have hms32_0:=NB134_132.out;have hms32_1:=NB134_133.out;refine skip_ (w1:=?_) (by rfl) rfl ?_ ?_;rotate_left;(· go_simp;rfl);refine hK.out _ _ ?_;clear hK K;refine done_ (done_of HT_.out (by kernel_rfl)) ?_;(try go_wp2)
       go_roundg k1
       (case measure=>have:=HK1.out;omega);(case rel=>exact ⟨(wrap64 (x8_1+1)),(y141),(.slice Ao31 y141.length co31),rs_,H',⟨by have:=HK1.out;omega⟩,⟨by (with_reducible repeat (first | apply Kd.R_alloc | apply Kd.R_drewN | apply Kd.R_drew));exact Kd.R_mono (Kd.R_far (p:=⟨gb134,3,none⟩) (Kd.R_types HO143.out BK134.out (by decide)) (fun _ hk=>hk.2) (.slice Ao31 y141.length co31)) (fun _ hk=>trivial)⟩,⟨by (with_reducible repeat (first | refine blk_drewN ?_ _ | refine blk_drew ?_ | refine blk_alloc ?_ _));refine blk_far ?_ NB132_134.out _;(with_reducible repeat (first | refine blk_drewN ?_ _ | refine blk_drew ?_ | refine blk_alloc ?_ _));exact BK132.out⟩,⟨by (with_reducible repeat (first | refine blk_drewN ?_ _ | refine blk_drew ?_ | refine blk_alloc ?_ _));refine blk_far ?_ NB133_134.out _;(with_reducible repeat (first | refine blk_drewN ?_ _ | refine blk_drew ?_ | refine blk_alloc ?_ _));exact BK133.out⟩,⟨by (with_reducible repeat (first | refine blk_drewN ?_ _ | refine blk_drew ?_ | refine blk_alloc ?_ _));refine blk_put (cs:=#[.bool false, .int .i64 a0_2, .int .i64 a1,u135003]) ?_ 3 _ rfl;(with_reducible repeat (first | refine blk_drewN ?_ _ | refine blk_drew ?_ | refine blk_alloc ?_ _));exact BK134.out⟩,⟨by repeat (first | (with_reducible first | exact HB.out | apply below_alloc | apply pw_below_drewN | apply below_drew1 | refine below_set ?_ GE132.out | refine below_set ?_ GE133.out | refine below_set ?_ GE134.out) | exact HB.out)⟩⟩)
      (· (rw [if_neg c25] at H);exact absurd H (by simp))
     (· (rw [if_neg c24] at H);exact absurd H (by simp))
   (· (rw [if_neg c12] at H);have c12b0:decide (x8_1 < (l2.length:Int))=false:=decide_eq_false c12;clear c12;(simp only [Option.some.injEq,Prod.mk.injEq] at H);obtain ⟨rfl,rfl,rfl,rfl⟩:=H;have hnb33:=NB134_132.out;have hnc33:=NB132_134.out;have hnb34:=NB134_133.out;have hnc34:=NB133_134.out;have hcz35_0:wr.cell? ⟨gb134,0,none⟩=some (.bool false):=(blk_cell BK134.out 0).trans rfl;have hcz35_1:wr.cell? ⟨gb134,1,none⟩=some (.int .i64 a0_2):=(blk_cell BK134.out 1).trans rfl;have hcz35_2:wr.cell? ⟨gb134,2,none⟩=some (.int .i64 a1):=(blk_cell BK134.out 2).trans rfl;have hcz35_3:wr.cell? ⟨gb134,3,none⟩=some (u135003):=(blk_cell BK134.out 3).trans rfl;have hfz35_0:=blk_frozen BK134.out 0;have hfz35_1:=blk_frozen BK134.out 1;have hfz35_2:=blk_frozen BK134.out 2;have hfz35_3:=blk_frozen BK134.out 3;have hnb36:=NB133_132.out;have hnc36:=NB132_133.out;have hcz37_0:wr.cell? ⟨gb133,0,none⟩=some (.bool false):=(blk_cell BK133.out 0).trans rfl;have hcz37_1:wr.cell? ⟨gb133,1,none⟩=some (.int .i64 0):=(blk_cell BK133.out 1).trans rfl;have hcz37_2:wr.cell? ⟨gb133,2,none⟩=some (.int .i64 0):=(blk_cell BK133.out 2).trans rfl;have hcz37_3:wr.cell? ⟨gb133,3,none⟩=some (.slice none 0 0):=(blk_cell BK133.out 3).trans rfl;have hfz37_0:=blk_frozen BK133.out 0;have hfz37_1:=blk_frozen BK133.out 1;have hfz37_2:=blk_frozen BK133.out 2;have hfz37_3:=blk_frozen BK133.out 3;obtain ⟨Ao38,co38,eo38⟩:=Kd.R_slice HO_135003.out;subst eo38;go_wp2;refine bodyPost_ret (results_cell_row rfl _ _ gb133 48 #[.bool false, .int .i64 a0_2, .int .i64 a1, .slice Ao38 x135003_1.length co38] (0,0) _ rfl (by (with_reducible repeat (first | refine blk_drewN ?_ _ | refine blk_drew ?_ | refine blk_alloc ?_ _));refine blk_put (cs:=#[.bool false, .int .i64 a0_2, .int .i64 a1, .slice none 0 0]) ?_ 3 _ rfl;(with_reducible repeat (first | refine blk_drewN ?_ _ | refine blk_drew ?_ | refine blk_alloc ?_ _));refine blk_put (cs:=#[.bool false, .int .i64 a0_2, .int .i64 0, .slice none 0 0]) ?_ 2 _ rfl;(with_reducible repeat (first | refine blk_drewN ?_ _ | refine blk_drew ?_ | refine blk_alloc ?_ _));refine blk_put (cs:=#[.bool false, .int .i64 0, .int .i64 0, .slice none 0 0]) ?_ 1 _ rfl;(with_reducible repeat (first | refine blk_drewN ?_ _ | refine blk_drew ?_ | refine blk_alloc ?_ _));refine blk_put (cs:=#[.bool false, .int .i64 0, .int .i64 0, .slice none 0 0]) ?_ 0 _ rfl;(with_reducible repeat (first | refine blk_drewN ?_ _ | refine blk_drew ?_ | refine blk_alloc ?_ _));exact BK133.out) Tryz.underlying48 rfl (by kernel_rfl)) rfl ?_;exact ⟨_,by first | rfl | (simp [errW_none,errW_some] <;> rfl) | (simp [*,errW_none,errW_some] <;> rfl),by (with_reducible repeat (first | apply Kd.R_alloc | apply Kd.R_drewN | apply Kd.R_drew));exact Kd.R_mono (Kd.R_far (p:=⟨gb133,3,none⟩) (Kd.R_far (p:=⟨gb133,2,none⟩) (Kd.R_far (p:=⟨gb133,1,none⟩) (Kd.R_far (p:=⟨gb133,0,none⟩) (Kd.R_types HO_135003.out BK133.out (by decide)) (fun _ hk=>hk.2) (.bool false)) (fun _ hk=>hk.2) (.int .i64 a0_2)) (fun _ hk=>hk.2) (.int .i64 a1)) (fun _ hk=>hk.2) (.slice Ao38 x135003_1.length co38)) (fun _ hk=>trivial),by repeat (first | (with_reducible first | exact HB.out | apply below_alloc | apply pw_below_drewN | apply below_drew1 | refine below_set ?_ GE132.out | refine below_set ?_ GE133.out | refine below_set ?_ GE134.out) | exact HB.out)⟩)
def sennitref05_places.l0:Nat→List (List Int)→Int→Int→List Int→Int→Option (List Int)
  | 0,_,_,_,_,_=>none
  | k+1,x0,x1,x2,x7,x8=>if x8 < (x0.length:Int) then (if 0≤x8 then (if 0≤x1 then (if x1 < ((rd_L16 x0 x8).length:Int) then (if x7.length < 17592186044416 then (sennitref05_places.l0 k x0 x1 x2 (x7 ++ [wrap64 ((rd (rd_L16 x0 x8) x1)+x2)]) (wrap64 (x8+1))) else (none)) else (none)) else (none)) else (none)) else (some x7)
def sennitref05_places.f (k:Nat) (l0:List (List Int)) (a1:Int) (a2:Int):Option (List Int):=sennitref05_places.l0 k l0 a1 a2 ([]:List Int) 0
set_option maxHeartbeats 8000000 in
set_option maxRecDepth 100000 in
theorem sennitref05_places.calls (k:Nat) (A0:Option Addr) (c0:Nat) (l0:List (List Int)) (a1:Int) (a2:Int) (r:List Int) (w:World) (hr0:Kd.C (Kd.slice 3 (Kd.int .i64)) w A0 l0.length l0) (hc0:l0.length≤c0) (h:sennitref05_places.f k l0 a1 a2=some r) :
    Calls Tryz.prog 83 #[.slice A0 l0.length c0, .int .i64 a1, .int .i64 a2] w fun e w' => ∃ v0_:Value,e = .returned (v0_)∧Kd.R (Kd.int .i64) 3 w' w.heap.size (fun _=>True) v0_ r∧Below w.heap.size w w':=by
 have HR0:=Aside0.mk hr0;have HC0:=Aside0.mk hc0;clear hr0 hc0;have HB:=Aside0.mk (Below.refl w.heap.size w);have H:(sennitref05_places.l0 k l0 a1 a2 ([]:List Int) 0)=some r:=h;clear h;have H':=Aside0.mk H;clear H;go_enter Tryz.func83,Tryz.ntmps83;go_wp2
 go_loopg [7,8] k (fun kq v7 v8 w' => ∃ (x7_1:List Int) (x8_1:Int),v8 = .int .i64 x8_1∧Aside0 (sennitref05_places.l0 kq l0 a1 a2 x7_1 x8_1=some r)∧Aside0 (kq≤k)∧Aside0 (Kd.R (Kd.int .i64) 3 w' w.heap.size (fun _=>True) v7 x7_1)∧Aside0 (Below w.heap.size w w'))
 (case atStart=>exact ⟨(([]:List Int)),(0),rs_,H',⟨Nat.le_refl _⟩,⟨by first | exact Kd.R_nil _ _ _ _ _ | exact Kd.N_nil _ _ _ _ _ | exact Kd.V_nil _ _ _ _ _ | exact Kd.Q_nil _ _ _ _ _ | exact Kd.S_nil _ _ _ _ _⟩,⟨bel_⟩⟩)
 case round =>
  clear H';(try clear p2);obtain ⟨x7_1,x8_1,rfl,HA,HK1,HO_7,HB⟩:=hrel
  cases gk with
  | zero=>exact absurd HA.out (by simp [sennitref05_places.l0])
  | succ k1 =>
   have H:=HA.out;clear HA;(simp only [sennitref05_places.l0] at H)
   by_cases c4:x8_1 < (l0.length:Int)
   ·
    (rw [if_pos c4] at H);have c4b0:decide (x8_1 < (l0.length:Int))=true:=decide_eq_true c4;clear c4
    by_cases c5:0≤x8_1
    ·
     (rw [if_pos c5] at H);have c5b0:decide (0≤x8_1)=true:=decide_eq_true c5;clear c5
     by_cases c6:0≤a1
     ·
      (rw [if_pos c6] at H);have c6b0:decide (0≤a1)=true:=decide_eq_true c6;clear c6
      by_cases c7:a1 < ((rd_L16 l0 x8_1).length:Int)
      ·
       (rw [if_pos c7] at H);have c7b0:decide (a1 < ((rd_L16 l0 x8_1).length:Int))=true:=decide_eq_true c7;clear c7
       by_cases c8:x7_1.length < 17592186044416
       ·
        (rw [if_pos c8] at H);have LMc8:=Aside0.mk c8;clear c8;obtain ⟨y146,hy146⟩ : ∃ y_:List Int,y_=(x7_1 ++ [wrap64 ((rd (rd_L16 l0 x8_1) a1)+a2)]):=⟨_,rfl⟩;(replace H:(sennitref05_places.l0 k1 l0 a1 a2 y146 (wrap64 (x8_1+1)))=some r:=by first | (rw [hy146];with_reducible exact H) | (have H2_:=(Option.bind_some _ _).symm.trans H;rw [hy146];with_reducible exact H2_) | (have H2_:=(Option.bind_some _ _).symm.trans H;with_reducible exact H2_) | with_reducible exact H | (rw [hy146];exact H) | exact H);have Ny146:=Aside0.mk hy146;clear hy146;have H':=Aside0.mk H;clear H;have p144:0≤(x8_1:Int):=dt_;have q144:x8_1 < (l0.length:Int):=dt_;obtain ⟨ad144,A144_0,c144_0,e144,hx144_0,hl144_0,hi144_0⟩:=at_L16 HR0.out x8_1 p144 q144;cases e144;replace hx144_0:=(HB.out.cell (World.block_lt_of_cell? w _ hx144_0)).trans hx144_0;have HR144_0:=Aside0.mk hi144_0;have HC144_0:=Aside0.mk hl144_0;clear hi144_0 hl144_0;replace p144:=eq_true p144;replace q144:=eq_true q144;have p145:0≤(a1:Int):=dt_;have q145:a1 < ((rd_L16 l0 x8_1).length:Int):=dt_;obtain ⟨ad145,e145,hx145_0⟩:=Kd.at_int HR144_0.out a1 p145 q145;cases e145;replace hx145_0:=(HB.out.cell (World.block_lt_of_cell? w _ hx145_0)).trans hx145_0;replace p145:=eq_true p145;replace q145:=eq_true q145;(go_wp2_with (first | ((with_reducible refine gate_builtin (b := .append) (xs:=#[.tmp 15, .tmp 25]) rfl ?_);at_builtin;refine Kd.R_append (Kd.int .i64) (w0:=w) w.heap.size rfl (.tmp 15) (.tmp 25) 72 3 (.int .i64 0) 8 rfl Tryz.underlying72 info3 rfl (by decide) (by omega) u7 x7_1 (wrap64 ((rd (rd_L16 l0 x8_1) a1)+a2)) [.int .i64 (wrap64 ((rd (rd_L16 l0 x8_1) a1)+a2))] (fun _=>True) (fun _=>False) rfl rfl ?aP (fun _ hk=>hk.elim) ?aF ?aO ?aB ?aS ?aL ?_;(case aP=>exact rfl);(case aB=>exact bel_);(case aF=>exact (fun _ _=>trivial));(case aO=>exact (pR_ HO_7.out));(case aS=>exact (below_size bel_));(case aL=>have:=LMc8.out;omega);intro v147 w9 ho hb hg hat;rw [← Ny146.out] at ho;have n0_:=Aside0.mk (hb);have n1_:=Aside0.mk (ho);clear HB;clear HO_7;have HB:=n0_;have HO148:=n1_;clear n0_ n1_;clear ho hb hg hat)))
        go_roundg k1
        (case measure=>have:=HK1.out;omega);(case rel=>exact ⟨(y146),(wrap64 (x8_1+1)),rs_,H',⟨by have:=HK1.out;omega⟩,⟨pR_ HO148.out⟩,⟨bel_⟩⟩)
       (· (rw [if_neg c8] at H);exact absurd H (by simp))
      (· (rw [if_neg c7] at H);exact absurd H (by simp))
     (· (rw [if_neg c6] at H);exact absurd H (by simp))
    (· (rw [if_neg c5] at H);exact absurd H (by simp))
   (· (rw [if_neg c4] at H);have c4b0:decide (x8_1 < (l0.length:Int))=false:=decide_eq_false c4;clear c4;obtain rfl:=Option.some.inj H;go_wp2;go_ret;exact ⟨_,by first | rfl | (simp [errW_none,errW_some] <;> rfl) | (simp [*,errW_none,errW_some] <;> rfl),by (with_reducible repeat (first | apply Kd.R_alloc | apply Kd.R_drewN | apply Kd.R_drew));exact HO_7.out,bel_⟩)
def sennitref05_Empty.l0:Nat→Bool→Int→Bool→Int→Int→List (S45)→Option (Bool)
  | 0,_,_,_,_,_,_=>none
  | k+1,x3,x4,x150000,x150001,x150002,x150003=>if x4 < (x150003.length:Int) then (if x3=true then (sennitref05_Empty.l0 k true (wrap64 (x4+1)) x150000 x150001 x150002 x150003) else (if 0≤x4 then (sennitref05_Empty.l0 k (decide (((rd_T45 x150003 x4).f0) < ((rd_T45 x150003 x4).f1))) (wrap64 (x4+1)) x150000 x150001 x150002 x150003) else (none))) else (some (!x3))
def sennitref05_Empty.f (k:Nat) (a0_0:Bool) (a0_1:Int) (a0_2:Int) (l0_3:List (S45)):Option (Bool):=sennitref05_Empty.l0 k (decide (a0_1 < a0_2)) 0 a0_0 a0_1 a0_2 l0_3
set_option maxHeartbeats 8000000 in
set_option maxRecDepth 100000 in
theorem sennitref05_Empty.calls (k:Nat) (a0_0:Bool) (a0_1:Int) (a0_2:Int) (A0_3:Option Addr) (c0_3:Nat) (l0_3:List (S45)) (r:Bool) (w:World) (hr0_3:Kd.C k45 w A0_3 l0_3.length l0_3) (hc0_3:l0_3.length≤c0_3) (h:sennitref05_Empty.f k a0_0 a0_1 a0_2 l0_3=some r) :
    Calls Tryz.prog 84 #[.agg #[.bool a0_0, .int .i64 a0_1, .int .i64 a0_2, .slice A0_3 l0_3.length c0_3]] w fun e w'=>e = .returned (.bool r)∧Below w.heap.size w w':=by
 have hu48:=Tryz.underlying48;have HR0_3:=Aside0.mk hr0_3;have HC0_3:=Aside0.mk hc0_3;clear hr0_3 hc0_3;have HB:=Aside0.mk (Below.refl w.heap.size w);have H:(sennitref05_Empty.l0 k (decide (a0_1 < a0_2)) 0 a0_0 a0_1 a0_2 l0_3)=some r:=h;clear h;have H':=Aside0.mk H;clear H;go_enter Tryz.func84,Tryz.ntmps84;(go_wp2_with (first | ((with_reducible refine gate_dst (N:=1) rfl ?_);refine box_event ?hg (N:=1) ?hd (cs:=#[.bool a0_0, .int .i64 a0_1, .int .i64 a0_2, .slice A0_3 l0_3.length c0_3]) (t:=48) ?hr ?_;(case hd=>rfl);(case hg=>rfl);(case hr=>first | (go_simp;done) | (go_simp;rfl));intro gb149 hg w2 hbox hb;have n0_:=Aside0.mk (below_step bel_ hb);have n1_:=Aside0.mk (hbox);have n2_:=Aside0.mk ((by rw [hg];exact (below_size bel_):w.heap.size≤gb149));have n3_:=Aside0.mk ((by rw [hg];exact (below_size bel_):w.heap.size≤gb149));clear HB;have HB:=n0_;have BK149:=n1_;have GW149:=n2_;have GE149:=n3_;clear n0_ n1_ n2_ n3_;clear hb hbox hg;have hcz3_0:w2.cell? ⟨gb149,0,none⟩=some (.bool a0_0):=(blk_cell BK149.out 0).trans rfl;have hcz3_1:w2.cell? ⟨gb149,1,none⟩=some (.int .i64 a0_1):=(blk_cell BK149.out 1).trans rfl;have hcz3_2:w2.cell? ⟨gb149,2,none⟩=some (.int .i64 a0_2):=(blk_cell BK149.out 2).trans rfl;have hcz3_3:w2.cell? ⟨gb149,3,none⟩=some (.slice A0_3 l0_3.length c0_3):=(blk_cell BK149.out 3).trans rfl;have hfz3_0:=blk_frozen BK149.out 0;have hfz3_1:=blk_frozen BK149.out 1;have hfz3_2:=blk_frozen BK149.out 2;have hfz3_3:=blk_frozen BK149.out 3)));(repeat (go_quiet (first | ((with_reducible refine gate_dst (N:=1) rfl ?_);refine box_event ?hg (N:=1) ?hd (cs:=#[.bool a0_0, .int .i64 a0_1, .int .i64 a0_2, .slice A0_3 l0_3.length c0_3]) (t:=48) ?hr ?_;(case hd=>rfl);(case hg=>rfl);(case hr=>first | (go_simp;done) | (go_simp;rfl));intro gb149 hg w2 hbox hb;have n0_:=Aside0.mk (below_step bel_ hb);have n1_:=Aside0.mk (hbox);have n2_:=Aside0.mk ((by rw [hg];exact (below_size bel_):w.heap.size≤gb149));have n3_:=Aside0.mk ((by rw [hg];exact (below_size bel_):w.heap.size≤gb149));clear HB;have HB:=n0_;have BK149:=n1_;have GW149:=n2_;have GE149:=n3_;clear n0_ n1_ n2_ n3_;clear hb hbox hg;have hcz3_0:w2.cell? ⟨gb149,0,none⟩=some (.bool a0_0):=(blk_cell BK149.out 0).trans rfl;have hcz3_1:w2.cell? ⟨gb149,1,none⟩=some (.int .i64 a0_1):=(blk_cell BK149.out 1).trans rfl;have hcz3_2:w2.cell? ⟨gb149,2,none⟩=some (.int .i64 a0_2):=(blk_cell BK149.out 2).trans rfl;have hcz3_3:w2.cell? ⟨gb149,3,none⟩=some (.slice A0_3 l0_3.length c0_3):=(blk_cell BK149.out 3).trans rfl;have hfz3_0:=blk_frozen BK149.out 0;have hfz3_1:=blk_frozen BK149.out 1;have hfz3_2:=blk_frozen BK149.out 2;have hfz3_3:=blk_frozen BK149.out 3));try go_wp2_with (first | ((with_reducible refine gate_dst (N:=1) rfl ?_);refine box_event ?hg (N:=1) ?hd (cs:=#[.bool a0_0, .int .i64 a0_1, .int .i64 a0_2, .slice A0_3 l0_3.length c0_3]) (t:=48) ?hr ?_;(case hd=>rfl);(case hg=>rfl);(case hr=>first | (go_simp;done) | (go_simp;rfl));intro gb149 hg w2 hbox hb;have n0_:=Aside0.mk (below_step bel_ hb);have n1_:=Aside0.mk (hbox);have n2_:=Aside0.mk ((by rw [hg];exact (below_size bel_):w.heap.size≤gb149));have n3_:=Aside0.mk ((by rw [hg];exact (below_size bel_):w.heap.size≤gb149));clear HB;have HB:=n0_;have BK149:=n1_;have GW149:=n2_;have GE149:=n3_;clear n0_ n1_ n2_ n3_;clear hb hbox hg;have hcz3_0:w2.cell? ⟨gb149,0,none⟩=some (.bool a0_0):=(blk_cell BK149.out 0).trans rfl;have hcz3_1:w2.cell? ⟨gb149,1,none⟩=some (.int .i64 a0_1):=(blk_cell BK149.out 1).trans rfl;have hcz3_2:w2.cell? ⟨gb149,2,none⟩=some (.int .i64 a0_2):=(blk_cell BK149.out 2).trans rfl;have hcz3_3:w2.cell? ⟨gb149,3,none⟩=some (.slice A0_3 l0_3.length c0_3):=(blk_cell BK149.out 3).trans rfl;have hfz3_0:=blk_frozen BK149.out 0;have hfz3_1:=blk_frozen BK149.out 1;have hfz3_2:=blk_frozen BK149.out 2;have hfz3_3:=blk_frozen BK149.out 3))))
 go_loopg [3,4] k (fun kq v3 v4 w' => ∃ (x3_1:Bool) (x4_1:Int),v3 = .bool x3_1∧v4 = .int .i64 x4_1∧Aside0 (sennitref05_Empty.l0 kq x3_1 x4_1 a0_0 a0_1 a0_2 l0_3=some r)∧Aside0 (kq≤k)∧Aside0 (w'.heap[gb149]? = some (.cells #[.bool a0_0, .int .i64 a0_1, .int .i64 a0_2,(.slice A0_3 l0_3.length c0_3)] 48 (0,0)))∧Aside0 (Below w.heap.size w w'))
 (case atStart=>exact ⟨(decide (a0_1 < a0_2)),(0),rs_,rs_,H',⟨Nat.le_refl _⟩,⟨pK_ BK149.out⟩,⟨by repeat (first | (with_reducible first | exact HB.out | apply below_alloc | apply pw_below_drewN | apply below_drew1 | refine below_set ?_ GE149.out) | exact HB.out)⟩⟩)
 case round =>
  clear H';(try clear p2);(try clear hcz3_0);(try clear hcz3_1);(try clear hcz3_2);(try clear hcz3_3);(try clear hfz3_0);(try clear hfz3_1);(try clear hfz3_2);(try clear hfz3_3);obtain ⟨x3_1,x4_1,rfl,rfl,HA,HK1,BK149,HB⟩:=hrel
  cases gk with
  | zero=>exact absurd HA.out (by simp [sennitref05_Empty.l0])
  | succ k1 =>
   have H:=HA.out;clear HA;(simp only [sennitref05_Empty.l0] at H)
   by_cases c4:x4_1 < (l0_3.length:Int)
   ·
    (rw [if_pos c4] at H);have c4b0:decide (x4_1 < (l0_3.length:Int))=true:=decide_eq_true c4;clear c4
    by_cases c5:x3_1=true
    ·
     subst c5;(have H1:(sennitref05_Empty.l0 k1 true (wrap64 (x4_1+1)) a0_0 a0_1 a0_2 l0_3)=some r:=by rw [if_pos rfl] at H;exact H);clear H;have H:=H1;clear H1;have H':=Aside0.mk H;clear H;have hcz6_0:wr.cell? ⟨gb149,0,none⟩=some (.bool a0_0):=(blk_cell BK149.out 0).trans rfl;have hcz6_1:wr.cell? ⟨gb149,1,none⟩=some (.int .i64 a0_1):=(blk_cell BK149.out 1).trans rfl;have hcz6_2:wr.cell? ⟨gb149,2,none⟩=some (.int .i64 a0_2):=(blk_cell BK149.out 2).trans rfl;have hcz6_3:wr.cell? ⟨gb149,3,none⟩=some (.slice A0_3 l0_3.length c0_3):=(blk_cell BK149.out 3).trans rfl;have hfz6_0:=blk_frozen BK149.out 0;have hfz6_1:=blk_frozen BK149.out 1;have hfz6_2:=blk_frozen BK149.out 2;have hfz6_3:=blk_frozen BK149.out 3;go_wp2;(repeat (go_quiet (fail);try go_wp2))
     go_roundg k1
     (case measure=>have:=HK1.out;omega);(case rel=>exact ⟨(true),(wrap64 (x4_1+1)),rs_,rs_,H',⟨by have:=HK1.out;omega⟩,⟨pK_ BK149.out⟩,⟨by repeat (first | (with_reducible first | exact HB.out | apply below_alloc | apply pw_below_drewN | apply below_drew1 | refine below_set ?_ GE149.out) | exact HB.out)⟩⟩)
    ·
     replace c5:=Bool.eq_false_iff.mpr c5;subst c5;(have H1:(if 0≤x4_1 then (sennitref05_Empty.l0 k1 (decide (((rd_T45 l0_3 x4_1).f0) < ((rd_T45 l0_3 x4_1).f1))) (wrap64 (x4_1+1)) a0_0 a0_1 a0_2 l0_3) else (none))=some r:=by rw [if_neg (show ¬ (false=true) by decide)] at H;exact H);clear H;have H:=H1;clear H1
     by_cases c7:0≤x4_1
     ·
      (rw [if_pos c7] at H);have c7b0:decide (0≤x4_1)=true:=decide_eq_true c7;clear c7;have H':=Aside0.mk H;clear H;have hcz8_0:wr.cell? ⟨gb149,0,none⟩=some (.bool a0_0):=(blk_cell BK149.out 0).trans rfl;have hcz8_1:wr.cell? ⟨gb149,1,none⟩=some (.int .i64 a0_1):=(blk_cell BK149.out 1).trans rfl;have hcz8_2:wr.cell? ⟨gb149,2,none⟩=some (.int .i64 a0_2):=(blk_cell BK149.out 2).trans rfl;have hcz8_3:wr.cell? ⟨gb149,3,none⟩=some (.slice A0_3 l0_3.length c0_3):=(blk_cell BK149.out 3).trans rfl;have hfz8_0:=blk_frozen BK149.out 0;have hfz8_1:=blk_frozen BK149.out 1;have hfz8_2:=blk_frozen BK149.out 2;have hfz8_3:=blk_frozen BK149.out 3;have p150:0≤(x4_1:Int):=dt_;have q150:x4_1 < (l0_3.length:Int):=dt_;obtain ⟨ad150,e150,hx150_0,hx150_1⟩:=at_T45 HR0_3.out x4_1 p150 q150;cases e150;replace hx150_0:=(HB.out.cell (World.block_lt_of_cell? w _ hx150_0)).trans hx150_0;replace hx150_1:=(HB.out.cell (World.block_lt_of_cell? w _ hx150_1)).trans hx150_1;replace p150:=eq_true p150;replace q150:=eq_true q150;have p151:0≤(x4_1:Int):=dt_;have q151:x4_1 < (l0_3.length:Int):=dt_;obtain ⟨ad151,e151,hx151_0,hx151_1⟩:=at_T45 HR0_3.out x4_1 p151 q151;obtain rfl:ad150=ad151:=(by injection e151);replace hx151_0:=(HB.out.cell (World.block_lt_of_cell? w _ hx151_0)).trans hx151_0;replace hx151_1:=(HB.out.cell (World.block_lt_of_cell? w _ hx151_1)).trans hx151_1;replace p151:=eq_true p151;replace q151:=eq_true q151;go_wp2;(repeat (go_quiet (fail);try go_wp2))
      go_roundg k1
      (case measure=>have:=HK1.out;omega);(case rel=>exact ⟨(decide (((rd_T45 l0_3 x4_1).f0) < ((rd_T45 l0_3 x4_1).f1))),(wrap64 (x4_1+1)),rs_,rs_,H',⟨by have:=HK1.out;omega⟩,⟨pK_ BK149.out⟩,⟨by repeat (first | (with_reducible first | exact HB.out | apply below_alloc | apply pw_below_drewN | apply below_drew1 | refine below_set ?_ GE149.out) | exact HB.out)⟩⟩)
     (· (rw [if_neg c7] at H);exact absurd H (by simp))
   (· (rw [if_neg c4] at H);have c4b0:decide (x4_1 < (l0_3.length:Int))=false:=decide_eq_false c4;clear c4;obtain rfl:=Option.some.inj H;have hcz9_0:wr.cell? ⟨gb149,0,none⟩=some (.bool a0_0):=(blk_cell BK149.out 0).trans rfl;have hcz9_1:wr.cell? ⟨gb149,1,none⟩=some (.int .i64 a0_1):=(blk_cell BK149.out 1).trans rfl;have hcz9_2:wr.cell? ⟨gb149,2,none⟩=some (.int .i64 a0_2):=(blk_cell BK149.out 2).trans rfl;have hcz9_3:wr.cell? ⟨gb149,3,none⟩=some (.slice A0_3 l0_3.length c0_3):=(blk_cell BK149.out 3).trans rfl;have hfz9_0:=blk_frozen BK149.out 0;have hfz9_1:=blk_frozen BK149.out 1;have hfz9_2:=blk_frozen BK149.out 2;have hfz9_3:=blk_frozen BK149.out 3;go_wp2;(repeat (go_quiet (fail);try go_wp2));go_ret;exact ⟨by first | rfl | (simp [errW_none,errW_some] <;> rfl) | (simp [*,errW_none,errW_some] <;> rfl),by repeat (first | (with_reducible first | exact HB.out | apply below_alloc | apply pw_below_drewN | apply below_drew1 | refine below_set ?_ GE149.out) | exact HB.out)⟩)
mutual
def sennitref05_together.j0:Nat→List (List Int)→Int→Bool→Option (Bool)
  | 0,_,_,_=>none
  | k+1,x0,x1,x14=>if x14=true then (some false) else (sennitref05_together.l0 k x0 x1 0)
def sennitref05_together.l0:Nat→List (List Int)→Int→Int→Option (Bool)
  | 0,_,_,_=>none
  | k+1,x0,x1,x5=>if x5 < (x0.length:Int) then (if 0≤x5 then (if 0≤x1 then (if x1 < ((rd_L16 x0 x5).length:Int) then (if 0≤(wrap64 (x1 - 1)) then (if (wrap64 (x1 - 1)) < ((rd_L16 x0 x5).length:Int) then (if (rd (rd_L16 x0 x5) x1)=(wrap64 ((rd (rd_L16 x0 x5) (wrap64 (x1 - 1)))+1)) then (sennitref05_together.l0 k x0 x1 (wrap64 (x5+1))) else (some false)) else (none)) else (none)) else (none)) else (none)) else (none)) else (some true)
end
def sennitref05_together.f (k:Nat) (l0:List (List Int)) (a1:Int):Option (Bool):=if a1=0 then (sennitref05_together.j0 k l0 a1 true) else ((sennitref05_stable.f k l0 (wrap64 (a1 - 1))).bind fun t152=>(sennitref05_together.j0 k l0 a1 (!t152)))
set_option maxHeartbeats 8000000 in
set_option maxRecDepth 100000 in
theorem sennitref05_together.calls (k:Nat) (A0:Option Addr) (c0:Nat) (l0:List (List Int)) (a1:Int) (r:Bool) (w:World) (hr0:Kd.C (Kd.slice 3 (Kd.int .i64)) w A0 l0.length l0) (hc0:l0.length≤c0) (h:sennitref05_together.f k l0 a1=some r) :
    Calls Tryz.prog 85 #[.slice A0 l0.length c0, .int .i64 a1] w fun e w'=>e = .returned (.bool r)∧Drawn0 w w':=by
 have HR0:=Aside0.mk hr0;have HC0:=Aside0.mk hc0;clear hr0 hc0;have H:(if a1=0 then (sennitref05_together.j0 k l0 a1 true) else ((sennitref05_stable.f k l0 (wrap64 (a1 - 1))).bind fun t152=>(sennitref05_together.j0 k l0 a1 (!t152))))=some r:=h;clear h;have HC3:=Aside0.mk H;clear H;go_enter Tryz.func85,Tryz.ntmps85
 go_upto_region 1 with (fail)
 (repeat (go_quiet (fail);go_upto_region 1 with (fail)))
 go_cut [14] (fun v14 wc => ∃ (kq:Nat) (x14_2:Bool),v14 = .bool x14_2∧Aside0 (sennitref05_together.j0 kq l0 a1 x14_2=some r)∧Aside0 (kq≤k)∧Drawn0 w wc)
 case first =>
  have H:=HC3.out;clear HC3
  by_cases c4:a1=0
  ·
   (rw [if_pos c4] at H);have c4b0:(a1 == 0)=true:=beq_iff_eq.mpr c4;have c4b1:(a1 != 0)=false:=bne_eq_false_iff_eq.mpr c4;clear c4;(first | rw [c4b0] | (simp only [i64_w,i32_w];rw [c4b0]) | skip);have H':=Aside0.mk H;clear H;go_wp2;(repeat (go_quiet (fail);try go_wp2))
   go_meet
   (case rel=>exact ⟨_,(true),rs_,H',⟨by first | omega | exact Nat.le_refl _⟩,d0_⟩)
  ·
   (rw [if_neg c4] at H);have c4b0:(a1 == 0)=false:=beq_eq_false_iff_ne.mpr c4;have c4b1:(a1 != 0)=true:=bne_iff_ne.mpr c4;(first | rw [c4b0] | (simp only [i64_w,i32_w];rw [c4b0]) | skip);replace H:=Option.bind_eq_some_iff.mp H;obtain ⟨t152,A50,H⟩:=H;replace H:(sennitref05_together.j0 k l0 a1 (!t152))=some r:=H;have A5:=Aside0.mk A50;clear A50;have H':=Aside0.mk H;clear H;(go_wp2_with (first | (go_at_call 81;(with_reducible refine (sennitref05_stable.calls k _ _ l0 (wrap64 (a1 - 1)) t152 _ ?side1 ?side2 A5.out).mono ?_);(case side1=>repeat (first | exact HR0.out | (with_reducible refine Kd.C_alloc ?_ _) | (with_reducible refine Kd.C_drewN ?_ _) | (with_reducible refine Kd.C_drew ?_)));(case side2=>exact HC0.out);rintro e w' ⟨rfl,⟨nd,rfl⟩⟩;(try first | exact ⟨rfl,_,World.drewN_drewN _ _ _⟩ | exact ⟨rfl,_,Eq.trans (World.drewN_drewN _ _ _) (congrArg (World.drewN _) (Nat.add_assoc _ _ _))⟩))));(repeat (go_quiet (first | (go_at_call 81;(with_reducible refine (sennitref05_stable.calls k _ _ l0 (wrap64 (a1 - 1)) t152 _ ?side1 ?side2 A5.out).mono ?_);(case side1=>repeat (first | exact HR0.out | (with_reducible refine Kd.C_alloc ?_ _) | (with_reducible refine Kd.C_drewN ?_ _) | (with_reducible refine Kd.C_drew ?_)));(case side2=>exact HC0.out);rintro e w' ⟨rfl,⟨nd,rfl⟩⟩;(try first | exact ⟨rfl,_,World.drewN_drewN _ _ _⟩ | exact ⟨rfl,_,Eq.trans (World.drewN_drewN _ _ _) (congrArg (World.drewN _) (Nat.add_assoc _ _ _))⟩)));try go_wp2_with (first | (go_at_call 81;(with_reducible refine (sennitref05_stable.calls k _ _ l0 (wrap64 (a1 - 1)) t152 _ ?side1 ?side2 A5.out).mono ?_);(case side1=>repeat (first | exact HR0.out | (with_reducible refine Kd.C_alloc ?_ _) | (with_reducible refine Kd.C_drewN ?_ _) | (with_reducible refine Kd.C_drew ?_)));(case side2=>exact HC0.out);rintro e w' ⟨rfl,⟨nd,rfl⟩⟩;(try first | exact ⟨rfl,_,World.drewN_drewN _ _ _⟩ | exact ⟨rfl,_,Eq.trans (World.drewN_drewN _ _ _) (congrArg (World.drewN _) (Nat.add_assoc _ _ _))⟩)))))
   go_meet
   (case rel=>exact ⟨_,(!t152),rs_,H',⟨by first | omega | exact Nat.le_refl _⟩,d0_⟩)
 case rest =>
  clear HC3;(try clear p2);(try clear c4);(try clear c4b0);(try clear c4b1);obtain ⟨kq,x14_2,rfl,HA,HJ2,⟨mc2,rfl⟩⟩:=hcut
  cases kq with
  | zero=>exact absurd HA.out (by simp [sennitref05_together.j0])
  | succ kj2 =>
   have H:=HA.out;clear HA;(simp only [sennitref05_together.j0] at H)
   by_cases c6:x14_2=true
   (· subst c6;(have H1:(some false)=some r:=by rw [if_pos rfl] at H;exact H);clear H;have H:=H1;clear H1;obtain rfl:=Option.some.inj H;go_wp2;(repeat (go_quiet (fail);try go_wp2));go_ret;exact ⟨by first | rfl | (simp;done) | (simp [*];done),d0_⟩)
   ·
    replace c6:=Bool.eq_false_iff.mpr c6;subst c6;(have H1:(sennitref05_together.l0 kj2 l0 a1 0)=some r:=by rw [if_neg (show ¬ (false=true) by decide)] at H;exact H);clear H;have H:=H1;clear H1;have H':=Aside0.mk H;clear H;go_wp2;(repeat (go_quiet (fail);try go_wp2))
    go_loopg [5] kj2 (fun kq v5 w' => ∃ (x5_2:Int),v5 = .int .i64 x5_2∧Aside0 (sennitref05_together.l0 kq l0 a1 x5_2=some r)∧Aside0 (kq≤kj2)∧Drawn0 w w')
    (case atStart=>exact ⟨(0),rs_,H',⟨Nat.le_refl _⟩,d0_⟩)
    case round =>
     clear H';(try clear c2);(try clear p2);(try clear c4);(try clear c4b0);(try clear c4b1);(try clear c6);(try clear p6);(try clear p2);obtain ⟨x5_2,rfl,HA,HK2,⟨m2,rfl⟩⟩:=hrel
     cases gk with
     | zero=>exact absurd HA.out (by simp [sennitref05_together.l0])
     | succ k2 =>
      have H:=HA.out;clear HA;(simp only [sennitref05_together.l0] at H)
      by_cases c7:x5_2 < (l0.length:Int)
      ·
       (rw [if_pos c7] at H);have c7b0:decide (x5_2 < (l0.length:Int))=true:=decide_eq_true c7;clear c7
       by_cases c8:0≤x5_2
       ·
        (rw [if_pos c8] at H);have c8b0:decide (0≤x5_2)=true:=decide_eq_true c8;clear c8
        by_cases c9:0≤a1
        ·
         (rw [if_pos c9] at H);have c9b0:decide (0≤a1)=true:=decide_eq_true c9;clear c9
         by_cases c10:a1 < ((rd_L16 l0 x5_2).length:Int)
         ·
          (rw [if_pos c10] at H);have c10b0:decide (a1 < ((rd_L16 l0 x5_2).length:Int))=true:=decide_eq_true c10;clear c10;obtain ⟨ji11,hji11⟩ : ∃ j_:Int,(wrap64 (a1 - 1))=j_:=⟨_,rfl⟩;(replace H:(if 0≤(ji11) then (if (ji11) < ((rd_L16 l0 x5_2).length:Int) then (if (rd (rd_L16 l0 x5_2) a1)=(wrap64 ((rd (rd_L16 l0 x5_2) (ji11))+1)) then (sennitref05_together.l0 k2 l0 a1 (wrap64 (x5_2+1))) else (some false)) else (none)) else (none))=some r:=by first | (rw [hji11] at H;exact H) | (simp only [hji11] at H ⊢;exact H));have hji11w:(IntKind.i64.wrap (a1 - 1))=ji11:=(i64_w _).trans hji11
          by_cases c12:0≤(ji11)
          ·
           (rw [if_pos c12] at H);have c12b0:decide (0≤(ji11))=true:=decide_eq_true c12;clear c12
           by_cases c13:(ji11) < ((rd_L16 l0 x5_2).length:Int)
           ·
            (rw [if_pos c13] at H);have c13b0:decide ((ji11) < ((rd_L16 l0 x5_2).length:Int))=true:=decide_eq_true c13;clear c13
            by_cases c14:(rd (rd_L16 l0 x5_2) a1)=(wrap64 ((rd (rd_L16 l0 x5_2) (ji11))+1))
            ·
             (rw [if_pos c14] at H);have c14b0:((rd (rd_L16 l0 x5_2) a1) == (wrap64 ((rd (rd_L16 l0 x5_2) (ji11))+1)))=true:=beq_iff_eq.mpr c14;have c14b1:((rd (rd_L16 l0 x5_2) a1) != (wrap64 ((rd (rd_L16 l0 x5_2) (ji11))+1)))=false:=bne_eq_false_iff_eq.mpr c14;clear c14;have H':=Aside0.mk H;clear H;have p153:0≤(x5_2:Int):=dt_;have q153:x5_2 < (l0.length:Int):=dt_;obtain ⟨ad153,A153_0,c153_0,e153,hx153_0,hl153_0,hi153_0⟩:=at_L16 HR0.out x5_2 p153 q153;cases e153;have HR153_0:=Aside0.mk hi153_0;have HC153_0:=Aside0.mk hl153_0;clear hi153_0 hl153_0;replace p153:=eq_true p153;replace q153:=eq_true q153;have p154:0≤(a1:Int):=dt_;have q154:a1 < ((rd_L16 l0 x5_2).length:Int):=dt_;obtain ⟨ad154,e154,hx154_0⟩:=Kd.at_int HR153_0.out a1 p154 q154;cases e154;replace p154:=eq_true p154;replace q154:=eq_true q154;have p155:0≤(x5_2:Int):=dt_;have q155:x5_2 < (l0.length:Int):=dt_;obtain ⟨ad155,A155_0,c155_0,e155,hx155_0,hl155_0,hi155_0⟩:=at_L16 HR0.out x5_2 p155 q155;obtain rfl:ad153=ad155:=(by injection e155);have HR155_0:=Aside0.mk hi155_0;have HC155_0:=Aside0.mk hl155_0;clear hi155_0 hl155_0;replace p155:=eq_true p155;replace q155:=eq_true q155;have ea_:=Option.some.inj (hx153_0.symm.trans hx155_0);(injection ea_ with ea_ en_ ec_);subst ea_;subst ec_;clear en_;have p156:0≤((ji11):Int):=dt_;have q156:(ji11) < ((rd_L16 l0 x5_2).length:Int):=dt_;obtain ⟨ad156,e156,hx156_0⟩:=Kd.at_int HR155_0.out (ji11) p156 q156;cases e156;replace p156:=eq_true p156;replace q156:=eq_true q156;go_wp2;(repeat (go_quiet (fail);try go_wp2))
             go_roundg k2
             (case measure=>have:=HJ2.out;have:=HK2.out;omega);(case rel=>exact ⟨(wrap64 (x5_2+1)),rs_,H',⟨by have:=HJ2.out;have:=HK2.out;omega⟩,d0_⟩)
            (· (rw [if_neg c14] at H);have c14b0:((rd (rd_L16 l0 x5_2) a1) == (wrap64 ((rd (rd_L16 l0 x5_2) (ji11))+1)))=false:=beq_eq_false_iff_ne.mpr c14;have c14b1:((rd (rd_L16 l0 x5_2) a1) != (wrap64 ((rd (rd_L16 l0 x5_2) (ji11))+1)))=true:=bne_iff_ne.mpr c14;obtain rfl:=Option.some.inj H;have p153:0≤(x5_2:Int):=dt_;have q153:x5_2 < (l0.length:Int):=dt_;obtain ⟨ad153,A153_0,c153_0,e153,hx153_0,hl153_0,hi153_0⟩:=at_L16 HR0.out x5_2 p153 q153;cases e153;have HR153_0:=Aside0.mk hi153_0;have HC153_0:=Aside0.mk hl153_0;clear hi153_0 hl153_0;replace p153:=eq_true p153;replace q153:=eq_true q153;have p154:0≤(a1:Int):=dt_;have q154:a1 < ((rd_L16 l0 x5_2).length:Int):=dt_;obtain ⟨ad154,e154,hx154_0⟩:=Kd.at_int HR153_0.out a1 p154 q154;cases e154;replace p154:=eq_true p154;replace q154:=eq_true q154;have p155:0≤(x5_2:Int):=dt_;have q155:x5_2 < (l0.length:Int):=dt_;obtain ⟨ad155,A155_0,c155_0,e155,hx155_0,hl155_0,hi155_0⟩:=at_L16 HR0.out x5_2 p155 q155;obtain rfl:ad153=ad155:=(by injection e155);have HR155_0:=Aside0.mk hi155_0;have HC155_0:=Aside0.mk hl155_0;clear hi155_0 hl155_0;replace p155:=eq_true p155;replace q155:=eq_true q155;have ea_:=Option.some.inj (hx153_0.symm.trans hx155_0);(injection ea_ with ea_ en_ ec_);subst ea_;subst ec_;clear en_;have p156:0≤((ji11):Int):=dt_;have q156:(ji11) < ((rd_L16 l0 x5_2).length:Int):=dt_;obtain ⟨ad156,e156,hx156_0⟩:=Kd.at_int HR155_0.out (ji11) p156 q156;cases e156;replace p156:=eq_true p156;replace q156:=eq_true q156;go_wp2;(repeat (go_quiet (fail);try go_wp2));go_ret;exact ⟨by first | rfl | (simp;done) | (simp only [← hji11] <;> (first | rfl | simp)) | (simp [*];done),d0_⟩)
           (· (rw [if_neg c13] at H);exact absurd H (by simp))
          (· (rw [if_neg c12] at H);exact absurd H (by simp))
         (· (rw [if_neg c10] at H);exact absurd H (by simp))
        (· (rw [if_neg c9] at H);exact absurd H (by simp))
       (· (rw [if_neg c8] at H);exact absurd H (by simp))
      (· (rw [if_neg c7] at H);have c7b0:decide (x5_2 < (l0.length:Int))=false:=decide_eq_false c7;clear c7;obtain rfl:=Option.some.inj H;go_wp2;(repeat (go_quiet (fail);try go_wp2));go_ret;exact ⟨by first | rfl | (simp;done) | (simp [*];done),d0_⟩)
def sennitref05_longer.l0:Nat→Int→Bool→Int→Int→List (S45)→Bool→Int→Int→List (S45)→Bool→Int→Int→List (S45)→Option (Bool × Int × Int × (List (S45)))
  | 0,_,_,_,_,_,_,_,_,_,_,_,_,_=>none
  | k+1,x6,x158000,x158001,x158002,x158003,x159000,x159001,x159002,x159003,x161000,x161001,x161002,x161003=>if x6 < (x158003.length:Int) then (if 0≤x6 then (if x6 < (x159003.length:Int) then (if x161003.length < 8796093022208 then (sennitref05_longer.l0 k (wrap64 (x6+1)) x158000 x158001 x158002 x158003 x159000 x159001 x159002 x159003 x161000 x161001 x161002 (x161003 ++ [(⟨(rd_T45 x158003 x6).f0,(rd_T45 x159003 x6).f1⟩:S45)])) else (none)) else (none)) else (none)) else (some (x161000,x161001,x161002,x161003))
def sennitref05_longer.f (k:Nat) (a0_0:Bool) (a0_1:Int) (a0_2:Int) (l0_3:List (S45)) (a1_0:Bool) (a1_1:Int) (a1_2:Int) (l1_3:List (S45)):Option (Bool × Int × Int × (List (S45))):=sennitref05_longer.l0 k 0 a0_0 a0_1 a0_2 l0_3 a1_0 a1_1 a1_2 l1_3 a0_0 a0_1 a1_2 ([]:List (S45))
def sennitref05_longer.T5:Bool × List (List Nat × List Nat):=(true,[([],[]),([0],[0]),([],[]),([2],[2]),([],[]),([3,4],[3,4]),([5],[5]),([6],[6]),([],[]),([8],[8]),([],[]),([9,10],[9,10]),([11],[11]),([12],[12]),([7,13],[7,13]),([14],[14]),([1,15],[1,15]),([0,1,2,3,4,5,6,7,8,9,10,11,12,13,14,15,16],[]),([17,16,16,0,1,2,3,4,5,6,7,8,9,10,11,12,13,14,15,16],[16,17])])
def sennitref05_longer.B5:List Nat:=[0,1,0,4,0,28,60,124,0,256,0,1792,3840,7936,16380,32764,65535,131071,262143]
theorem sennitref05_longer.tab5:rtab .any (opsOf Tryz.f86 5)=sennitref05_longer.T5:=by kernel_rfl
theorem sennitref05_longer.bits5:waitsOk sennitref05_longer.T5.2 sennitref05_longer.B5=true:=by kernel_rfl
set_option maxHeartbeats 8000000 in
set_option maxRecDepth 100000 in
theorem sennitref05_longer.calls (k:Nat) (a0_0:Bool) (a0_1:Int) (a0_2:Int) (A0_3:Option Addr) (c0_3:Nat) (l0_3:List (S45)) (a1_0:Bool) (a1_1:Int) (a1_2:Int) (A1_3:Option Addr) (c1_3:Nat) (l1_3:List (S45)) (r1:Bool) (r2:Int) (r3:Int) (r4:List (S45)) (w:World) (hr0_3:Kd.C k45 w A0_3 l0_3.length l0_3) (hc0_3:l0_3.length≤c0_3) (hr1_3:Kd.C k45 w A1_3 l1_3.length l1_3) (hc1_3:l1_3.length≤c1_3) (h:sennitref05_longer.f k a0_0 a0_1 a0_2 l0_3 a1_0 a1_1 a1_2 l1_3=some (r1,r2,r3,r4)) :
    Calls Tryz.prog 86 #[.agg #[.bool a0_0, .int .i64 a0_1, .int .i64 a0_2, .slice A0_3 l0_3.length c0_3], .agg #[.bool a1_0, .int .i64 a1_1, .int .i64 a1_2, .slice A1_3 l1_3.length c1_3]] w fun e w' => ∃ v3_:Value,e = .returned (.agg #[.bool r1, .int .i64 r2, .int .i64 r3,v3_])∧Kd.R k45 45 w' w.heap.size (fun _=>True) v3_ r4∧Below w.heap.size w w':=by
 have hu48:=Tryz.underlying48;have hu45:=Tryz.underlying45;have HR0_3:=Aside0.mk hr0_3;have HC0_3:=Aside0.mk hc0_3;clear hr0_3 hc0_3;have HR1_3:=Aside0.mk hr1_3;have HC1_3:=Aside0.mk hc1_3;clear hr1_3 hc1_3;have HB:=Aside0.mk (Below.refl w.heap.size w);have H:(sennitref05_longer.l0 k 0 a0_0 a0_1 a0_2 l0_3 a1_0 a1_1 a1_2 l1_3 a0_0 a0_1 a1_2 ([]:List (S45)))=some (r1,r2,r3,r4):=h;clear h;have H':=Aside0.mk H;clear H;go_enter Tryz.func86,Tryz.ntmps86
 (go_wp2_with (first | ((with_reducible refine gate_dst (N:=2) rfl ?_);refine box_event ?hg (N:=2) ?hd (cs:=#[.bool a0_0, .int .i64 a0_1, .int .i64 a0_2, .slice A0_3 l0_3.length c0_3]) (t:=48) ?hr ?_;(case hd=>rfl);(case hg=>rfl);(case hr=>first | (go_simp;done) | (go_simp;rfl));intro gb157 hg w3 hbox hb;have n0_:=Aside0.mk (below_step bel_ hb);have n1_:=Aside0.mk (hbox);have n2_:=Aside0.mk ((by rw [hg];exact (below_size bel_):w.heap.size≤gb157));have n3_:=Aside0.mk ((by rw [hg];exact (below_size bel_):w.heap.size≤gb157));clear HB;have HB:=n0_;have BK157:=n1_;have GW157:=n2_;have GE157:=n3_;clear n0_ n1_ n2_ n3_;clear hb hbox hg) | ((with_reducible refine gate_dst (N:=3) rfl ?_);refine box_event ?hg (N:=3) ?hd (cs:=#[.bool a1_0, .int .i64 a1_1, .int .i64 a1_2, .slice A1_3 l1_3.length c1_3]) (t:=48) ?hr ?_;(case hd=>rfl);(case hg=>rfl);(case hr=>first | (go_simp;done) | (go_simp;rfl));intro gb158 hg w4 hbox hb;have n0_:=Aside0.mk (blk_below (g:=gb157) (o := .cells #[.bool a0_0, .int .i64 a0_1, .int .i64 a0_2, .slice A0_3 l0_3.length c0_3] 48 (0,0)) (pK_ BK157.out) hb);have n1_:=Aside0.mk (below_step (by repeat (first | (with_reducible first | exact HB.out | apply below_alloc | apply pw_below_drewN | apply below_drew1 | refine below_set ?_ GE157.out) | exact HB.out)) hb);have n2_:=Aside0.mk (hbox);have n3_:=Aside0.mk ((by rw [hg];exact (below_size (by repeat (first | (with_reducible first | exact HB.out | apply below_alloc | apply pw_below_drewN | apply below_drew1 | refine below_set ?_ GE157.out) | exact HB.out))):w.heap.size≤gb158));have n4_:=Aside0.mk ((by rw [hg];exact (below_size (by repeat (first | (with_reducible first | exact HB.out | apply below_alloc | apply pw_below_drewN | apply below_drew1 | refine below_set ?_ GE157.out) | exact HB.out))):w.heap.size≤gb158));have n5_:=Aside0.mk ((by rw [hg];exact Nat.ne_of_lt (blk_lt (g:=gb157) (o := .cells #[.bool a0_0, .int .i64 a0_1, .int .i64 a0_2, .slice A0_3 l0_3.length c0_3] 48 (0,0)) (pK_ BK157.out)):gb157≠gb158));have n6_:=Aside0.mk ((by rw [hg];exact Nat.ne_of_gt (blk_lt (g:=gb157) (o := .cells #[.bool a0_0, .int .i64 a0_1, .int .i64 a0_2, .slice A0_3 l0_3.length c0_3] 48 (0,0)) (pK_ BK157.out)):gb158≠gb157));clear BK157;clear HB;have BK157:=n0_;have HB:=n1_;have BK158:=n2_;have GW158:=n3_;have GE158:=n4_;have NB157_158:=n5_;have NB158_157:=n6_;clear n0_ n1_ n2_ n3_ n4_ n5_ n6_;clear hb hbox hg) | ((with_reducible refine gate_dst (N:=4) rfl ?_);refine box_event ?hg (N:=4) ?hd (cs:=#[.bool false, .int .i64 0, .int .i64 0, .slice none 0 0]) (t:=48) ?hr ?_;(case hd=>rfl);(case hg=>rfl);(case hr=>first | (go_simp;done) | (go_simp;rfl));intro gb159 hg w5 hbox hb;have n0_:=Aside0.mk (blk_below (g:=gb157) (o := .cells #[.bool a0_0, .int .i64 a0_1, .int .i64 a0_2, .slice A0_3 l0_3.length c0_3] 48 (0,0)) (pK_ BK157.out) hb);have n1_:=Aside0.mk (blk_below (g:=gb158) (o := .cells #[.bool a1_0, .int .i64 a1_1, .int .i64 a1_2, .slice A1_3 l1_3.length c1_3] 48 (0,0)) (pK_ BK158.out) hb);have n2_:=Aside0.mk (below_step (by repeat (first | (with_reducible first | exact HB.out | apply below_alloc | apply pw_below_drewN | apply below_drew1 | refine below_set ?_ GE157.out | refine below_set ?_ GE158.out) | exact HB.out)) hb);have n3_:=Aside0.mk (hbox);have n4_:=Aside0.mk ((by rw [hg];exact (below_size (by repeat (first | (with_reducible first | exact HB.out | apply below_alloc | apply pw_below_drewN | apply below_drew1 | refine below_set ?_ GE157.out | refine below_set ?_ GE158.out) | exact HB.out))):w.heap.size≤gb159));have n5_:=Aside0.mk ((by rw [hg];exact (below_size (by repeat (first | (with_reducible first | exact HB.out | apply below_alloc | apply pw_below_drewN | apply below_drew1 | refine below_set ?_ GE157.out | refine below_set ?_ GE158.out) | exact HB.out))):w.heap.size≤gb159));have n6_:=Aside0.mk ((by rw [hg];exact Nat.ne_of_lt (blk_lt (g:=gb157) (o := .cells #[.bool a0_0, .int .i64 a0_1, .int .i64 a0_2, .slice A0_3 l0_3.length c0_3] 48 (0,0)) (pK_ BK157.out)):gb157≠gb159));have n7_:=Aside0.mk ((by rw [hg];exact Nat.ne_of_gt (blk_lt (g:=gb157) (o := .cells #[.bool a0_0, .int .i64 a0_1, .int .i64 a0_2, .slice A0_3 l0_3.length c0_3] 48 (0,0)) (pK_ BK157.out)):gb159≠gb157));have n8_:=Aside0.mk ((by rw [hg];exact Nat.ne_of_lt (blk_lt (g:=gb158) (o := .cells #[.bool a1_0, .int .i64 a1_1, .int .i64 a1_2, .slice A1_3 l1_3.length c1_3] 48 (0,0)) (pK_ BK158.out)):gb158≠gb159));have n9_:=Aside0.mk ((by rw [hg];exact Nat.ne_of_gt (blk_lt (g:=gb158) (o := .cells #[.bool a1_0, .int .i64 a1_1, .int .i64 a1_2, .slice A1_3 l1_3.length c1_3] 48 (0,0)) (pK_ BK158.out)):gb159≠gb158));clear BK157;clear BK158;clear HB;have BK157:=n0_;have BK158:=n1_;have HB:=n2_;have BK159:=n3_;have GW159:=n4_;have GE159:=n5_;have NB157_159:=n6_;have NB159_157:=n7_;have NB158_159:=n8_;have NB159_158:=n9_;clear n0_ n1_ n2_ n3_ n4_ n5_ n6_ n7_ n8_ n9_;clear hb hbox hg;have hnb6:=NB157_158.out;have hnc6:=NB158_157.out;have hnb7:=NB157_159.out;have hnc7:=NB159_157.out;have hcz8_0:w5.cell? ⟨gb157,0,none⟩=some (.bool a0_0):=(blk_cell BK157.out 0).trans rfl;have hcz8_1:w5.cell? ⟨gb157,1,none⟩=some (.int .i64 a0_1):=(blk_cell BK157.out 1).trans rfl;have hcz8_2:w5.cell? ⟨gb157,2,none⟩=some (.int .i64 a0_2):=(blk_cell BK157.out 2).trans rfl;have hcz8_3:w5.cell? ⟨gb157,3,none⟩=some (.slice A0_3 l0_3.length c0_3):=(blk_cell BK157.out 3).trans rfl;have hfz8_0:=blk_frozen BK157.out 0;have hfz8_1:=blk_frozen BK157.out 1;have hfz8_2:=blk_frozen BK157.out 2;have hfz8_3:=blk_frozen BK157.out 3;have hnb9:=NB158_159.out;have hnc9:=NB159_158.out;have hcz10_0:w5.cell? ⟨gb158,0,none⟩=some (.bool a1_0):=(blk_cell BK158.out 0).trans rfl;have hcz10_1:w5.cell? ⟨gb158,1,none⟩=some (.int .i64 a1_1):=(blk_cell BK158.out 1).trans rfl;have hcz10_2:w5.cell? ⟨gb158,2,none⟩=some (.int .i64 a1_2):=(blk_cell BK158.out 2).trans rfl;have hcz10_3:w5.cell? ⟨gb158,3,none⟩=some (.slice A1_3 l1_3.length c1_3):=(blk_cell BK158.out 3).trans rfl;have hfz10_0:=blk_frozen BK158.out 0;have hfz10_1:=blk_frozen BK158.out 1;have hfz10_2:=blk_frozen BK158.out 2;have hfz10_3:=blk_frozen BK158.out 3) | ((with_reducible refine gate_dst (N:=5) rfl ?_);refine box_event ?hg (N:=5) ?hd (cs:=#[.bool false, .int .i64 0, .int .i64 0, .slice none 0 0]) (t:=48) ?hr ?_;(case hd=>rfl);(case hg=>rfl);(case hr=>first | (go_simp;done) | (go_simp;rfl));intro gb160 hg w11 hbox hb;have n0_:=Aside0.mk (blk_below (g:=gb157) (o := .cells #[.bool a0_0, .int .i64 a0_1, .int .i64 a0_2, .slice A0_3 l0_3.length c0_3] 48 (0,0)) (pK_ BK157.out) hb);have n1_:=Aside0.mk (blk_below (g:=gb158) (o := .cells #[.bool a1_0, .int .i64 a1_1, .int .i64 a1_2, .slice A1_3 l1_3.length c1_3] 48 (0,0)) (pK_ BK158.out) hb);have n2_:=Aside0.mk (blk_below (g:=gb159) (o := .cells #[.bool false, .int .i64 0, .int .i64 0, .slice none 0 0] 48 (0,0)) (pK_ BK159.out) hb);have n3_:=Aside0.mk (below_step (by repeat (first | (with_reducible first | exact HB.out | apply below_alloc | apply pw_below_drewN | apply below_drew1 | refine below_set ?_ GE157.out | refine below_set ?_ GE158.out | refine below_set ?_ GE159.out) | exact HB.out)) hb);have n4_:=Aside0.mk (hbox);have n5_:=Aside0.mk ((by rw [hg];exact (below_size (by repeat (first | (with_reducible first | exact HB.out | apply below_alloc | apply pw_below_drewN | apply below_drew1 | refine below_set ?_ GE157.out | refine below_set ?_ GE158.out | refine below_set ?_ GE159.out) | exact HB.out))):w.heap.size≤gb160));have n6_:=Aside0.mk ((by rw [hg];exact (below_size (by repeat (first | (with_reducible first | exact HB.out | apply below_alloc | apply pw_below_drewN | apply below_drew1 | refine below_set ?_ GE157.out | refine below_set ?_ GE158.out | refine below_set ?_ GE159.out) | exact HB.out))):w.heap.size≤gb160));have n7_:=Aside0.mk ((by rw [hg];exact Nat.ne_of_lt (blk_lt (g:=gb157) (o := .cells #[.bool a0_0, .int .i64 a0_1, .int .i64 a0_2, .slice A0_3 l0_3.length c0_3] 48 (0,0)) (pK_ BK157.out)):gb157≠gb160));have n8_:=Aside0.mk ((by rw [hg];exact Nat.ne_of_gt (blk_lt (g:=gb157) (o := .cells #[.bool a0_0, .int .i64 a0_1, .int .i64 a0_2, .slice A0_3 l0_3.length c0_3] 48 (0,0)) (pK_ BK157.out)):gb160≠gb157));have n9_:=Aside0.mk ((by rw [hg];exact Nat.ne_of_lt (blk_lt (g:=gb158) (o := .cells #[.bool a1_0, .int .i64 a1_1, .int .i64 a1_2, .slice A1_3 l1_3.length c1_3] 48 (0,0)) (pK_ BK158.out)):gb158≠gb160));have n10_:=Aside0.mk ((by rw [hg];exact Nat.ne_of_gt (blk_lt (g:=gb158) (o := .cells #[.bool a1_0, .int .i64 a1_1, .int .i64 a1_2, .slice A1_3 l1_3.length c1_3] 48 (0,0)) (pK_ BK158.out)):gb160≠gb158));have n11_:=Aside0.mk ((by rw [hg];exact Nat.ne_of_lt (blk_lt (g:=gb159) (o := .cells #[.bool false, .int .i64 0, .int .i64 0, .slice none 0 0] 48 (0,0)) (pK_ BK159.out)):gb159≠gb160));have n12_:=Aside0.mk ((by rw [hg];exact Nat.ne_of_gt (blk_lt (g:=gb159) (o := .cells #[.bool false, .int .i64 0, .int .i64 0, .slice none 0 0] 48 (0,0)) (pK_ BK159.out)):gb160≠gb159));clear BK157;clear BK158;clear BK159;clear HB;have BK157:=n0_;have BK158:=n1_;have BK159:=n2_;have HB:=n3_;have BK160:=n4_;have GW160:=n5_;have GE160:=n6_;have NB157_160:=n7_;have NB160_157:=n8_;have NB158_160:=n9_;have NB160_158:=n10_;have NB159_160:=n11_;have NB160_159:=n12_;clear n0_ n1_ n2_ n3_ n4_ n5_ n6_ n7_ n8_ n9_ n10_ n11_ n12_;clear hb hbox hg;have hnb12:=NB160_157.out;have hnc12:=NB157_160.out;have hnb13:=NB160_158.out;have hnc13:=NB158_160.out;have hnb14:=NB160_159.out;have hnc14:=NB159_160.out;have hcz15_0:w11.cell? ⟨gb160,0,none⟩=some (.bool false):=(blk_cell BK160.out 0).trans rfl;have hcz15_1:w11.cell? ⟨gb160,1,none⟩=some (.int .i64 0):=(blk_cell BK160.out 1).trans rfl;have hcz15_2:w11.cell? ⟨gb160,2,none⟩=some (.int .i64 0):=(blk_cell BK160.out 2).trans rfl;have hcz15_3:w11.cell? ⟨gb160,3,none⟩=some (.slice none 0 0):=(blk_cell BK160.out 3).trans rfl;have hfz15_0:=blk_frozen BK160.out 0;have hfz15_1:=blk_frozen BK160.out 1;have hfz15_2:=blk_frozen BK160.out 2;have hfz15_3:=blk_frozen BK160.out 3)))
 go_loopg [6] k (fun kq v6 w' => ∃ (x6_1:Int) (x161003_1:List (S45)) (u161003:Value),v6 = .int .i64 x6_1∧Aside0 (sennitref05_longer.l0 kq x6_1 a0_0 a0_1 a0_2 l0_3 a1_0 a1_1 a1_2 l1_3 a0_0 a0_1 a1_2 x161003_1=some (r1,r2,r3,r4))∧Aside0 (kq≤k)∧Aside0 (Kd.R k45 45 w' w.heap.size (fun _=>True) u161003 x161003_1)∧Aside0 (w'.heap[gb157]? = some (.cells #[.bool a0_0, .int .i64 a0_1, .int .i64 a0_2,(.slice A0_3 l0_3.length c0_3)] 48 (0,0)))∧Aside0 (w'.heap[gb158]? = some (.cells #[.bool a1_0, .int .i64 a1_1, .int .i64 a1_2,(.slice A1_3 l1_3.length c1_3)] 48 (0,0)))∧Aside0 (w'.heap[gb159]? = some (.cells #[.bool false, .int .i64 0, .int .i64 0,(.slice none 0 0)] 48 (0,0)))∧Aside0 (w'.heap[gb160]? = some (.cells #[.bool a0_0, .int .i64 a0_1, .int .i64 a1_2,u161003] 48 (0,0)))∧Aside0 (Below w.heap.size w w'))
 (case atStart=>exact ⟨(0),(([]:List (S45))),(.slice none 0 0),rs_,H',⟨Nat.le_refl _⟩,⟨by first | exact Kd.R_nil _ _ _ _ _ | exact Kd.N_nil _ _ _ _ _ | exact Kd.V_nil _ _ _ _ _ | exact Kd.Q_nil _ _ _ _ _ | exact Kd.S_nil _ _ _ _ _⟩,⟨by (with_reducible repeat (first | refine blk_drewN ?_ _ | refine blk_drew ?_ | refine blk_alloc ?_ _));refine blk_far ?_ NB157_160.out _;(with_reducible repeat (first | refine blk_drewN ?_ _ | refine blk_drew ?_ | refine blk_alloc ?_ _));refine blk_far ?_ NB157_160.out _;(with_reducible repeat (first | refine blk_drewN ?_ _ | refine blk_drew ?_ | refine blk_alloc ?_ _));refine blk_far ?_ NB157_160.out _;(with_reducible repeat (first | refine blk_drewN ?_ _ | refine blk_drew ?_ | refine blk_alloc ?_ _));refine blk_far ?_ NB157_160.out _;(with_reducible repeat (first | refine blk_drewN ?_ _ | refine blk_drew ?_ | refine blk_alloc ?_ _));exact BK157.out⟩,⟨by (with_reducible repeat (first | refine blk_drewN ?_ _ | refine blk_drew ?_ | refine blk_alloc ?_ _));refine blk_far ?_ NB158_160.out _;(with_reducible repeat (first | refine blk_drewN ?_ _ | refine blk_drew ?_ | refine blk_alloc ?_ _));refine blk_far ?_ NB158_160.out _;(with_reducible repeat (first | refine blk_drewN ?_ _ | refine blk_drew ?_ | refine blk_alloc ?_ _));refine blk_far ?_ NB158_160.out _;(with_reducible repeat (first | refine blk_drewN ?_ _ | refine blk_drew ?_ | refine blk_alloc ?_ _));refine blk_far ?_ NB158_160.out _;(with_reducible repeat (first | refine blk_drewN ?_ _ | refine blk_drew ?_ | refine blk_alloc ?_ _));exact BK158.out⟩,⟨by (with_reducible repeat (first | refine blk_drewN ?_ _ | refine blk_drew ?_ | refine blk_alloc ?_ _));refine blk_far ?_ NB159_160.out _;(with_reducible repeat (first | refine blk_drewN ?_ _ | refine blk_drew ?_ | refine blk_alloc ?_ _));refine blk_far ?_ NB159_160.out _;(with_reducible repeat (first | refine blk_drewN ?_ _ | refine blk_drew ?_ | refine blk_alloc ?_ _));refine blk_far ?_ NB159_160.out _;(with_reducible repeat (first | refine blk_drewN ?_ _ | refine blk_drew ?_ | refine blk_alloc ?_ _));refine blk_far ?_ NB159_160.out _;(with_reducible repeat (first | refine blk_drewN ?_ _ | refine blk_drew ?_ | refine blk_alloc ?_ _));exact BK159.out⟩,⟨by (with_reducible repeat (first | refine blk_drewN ?_ _ | refine blk_drew ?_ | refine blk_alloc ?_ _));refine blk_put (cs:=#[.bool a0_0, .int .i64 a0_1, .int .i64 a1_2, .slice none 0 0]) ?_ 3 _ rfl;(with_reducible repeat (first | refine blk_drewN ?_ _ | refine blk_drew ?_ | refine blk_alloc ?_ _));refine blk_put (cs:=#[.bool a0_0, .int .i64 a0_1, .int .i64 0, .slice none 0 0]) ?_ 2 _ rfl;(with_reducible repeat (first | refine blk_drewN ?_ _ | refine blk_drew ?_ | refine blk_alloc ?_ _));refine blk_put (cs:=#[.bool a0_0, .int .i64 0, .int .i64 0, .slice none 0 0]) ?_ 1 _ rfl;(with_reducible repeat (first | refine blk_drewN ?_ _ | refine blk_drew ?_ | refine blk_alloc ?_ _));refine blk_put (cs:=#[.bool false, .int .i64 0, .int .i64 0, .slice none 0 0]) ?_ 0 _ rfl;(with_reducible repeat (first | refine blk_drewN ?_ _ | refine blk_drew ?_ | refine blk_alloc ?_ _));exact BK160.out⟩,⟨by repeat (first | (with_reducible first | exact HB.out | apply below_alloc | apply pw_below_drewN | apply below_drew1 | refine below_set ?_ GE157.out | refine below_set ?_ GE158.out | refine below_set ?_ GE159.out | refine below_set ?_ GE160.out) | exact HB.out)⟩⟩)
 case round =>
  clear H';(try clear c1);(try clear p2);(try clear c6);(try clear c7);(try clear c8);(try clear c9);(try clear c12);(try clear c13);(try clear c14);(try clear hcz10_0);(try clear hcz10_1);(try clear hcz10_2);(try clear hcz10_3);(try clear hcz15_0);(try clear hcz15_1);(try clear hcz15_2);(try clear hcz15_3);(try clear hcz8_0);(try clear hcz8_1);(try clear hcz8_2);(try clear hcz8_3);(try clear hfz10_0);(try clear hfz10_1);(try clear hfz10_2);(try clear hfz10_3);(try clear hfz15_0);(try clear hfz15_1);(try clear hfz15_2);(try clear hfz15_3);(try clear hfz8_0);(try clear hfz8_1);(try clear hfz8_2);(try clear hfz8_3);obtain ⟨x6_1,x161003_1,u161003,rfl,HA,HK1,HO_161003,BK157,BK158,BK159,BK160,HB⟩:=hrel
  cases gk with
  | zero=>exact absurd HA.out (by simp [sennitref05_longer.l0])
  | succ k1 =>
   have H:=HA.out;clear HA;(simp only [sennitref05_longer.l0] at H)
   by_cases c16:x6_1 < (l0_3.length:Int)
   ·
    (rw [if_pos c16] at H);have c16b0:decide (x6_1 < (l0_3.length:Int))=true:=decide_eq_true c16;clear c16
    by_cases c17:0≤x6_1
    ·
     (rw [if_pos c17] at H);have c17b0:decide (0≤x6_1)=true:=decide_eq_true c17;clear c17
     by_cases c18:x6_1 < (l1_3.length:Int)
     ·
      (rw [if_pos c18] at H);have c18b0:decide (x6_1 < (l1_3.length:Int))=true:=decide_eq_true c18;clear c18
      by_cases c19:x161003_1.length < 8796093022208
      ·
       (rw [if_pos c19] at H);have LMc19:=Aside0.mk c19;clear c19;obtain ⟨y163,hy163⟩ : ∃ y_:List (S45),y_=(x161003_1 ++ [(⟨(rd_T45 l0_3 x6_1).f0,(rd_T45 l1_3 x6_1).f1⟩:S45)]):=⟨_,rfl⟩;(replace H:(sennitref05_longer.l0 k1 (wrap64 (x6_1+1)) a0_0 a0_1 a0_2 l0_3 a1_0 a1_1 a1_2 l1_3 a0_0 a0_1 a1_2 y163)=some (r1,r2,r3,r4):=by first | (rw [hy163];with_reducible exact H) | (have H2_:=(Option.bind_some _ _).symm.trans H;rw [hy163];with_reducible exact H2_) | (have H2_:=(Option.bind_some _ _).symm.trans H;with_reducible exact H2_) | with_reducible exact H | (rw [hy163];exact H) | exact H);have Ny163:=Aside0.mk hy163;clear hy163;have H':=Aside0.mk H;clear H;have hnb20:=NB157_158.out;have hnc20:=NB158_157.out;have hnb21:=NB157_159.out;have hnc21:=NB159_157.out;have hnb22:=NB157_160.out;have hnc22:=NB160_157.out;have hcz23_0:wr.cell? ⟨gb157,0,none⟩=some (.bool a0_0):=(blk_cell BK157.out 0).trans rfl;have hcz23_1:wr.cell? ⟨gb157,1,none⟩=some (.int .i64 a0_1):=(blk_cell BK157.out 1).trans rfl;have hcz23_2:wr.cell? ⟨gb157,2,none⟩=some (.int .i64 a0_2):=(blk_cell BK157.out 2).trans rfl;have hcz23_3:wr.cell? ⟨gb157,3,none⟩=some (.slice A0_3 l0_3.length c0_3):=(blk_cell BK157.out 3).trans rfl;have hfz23_0:=blk_frozen BK157.out 0;have hfz23_1:=blk_frozen BK157.out 1;have hfz23_2:=blk_frozen BK157.out 2;have hfz23_3:=blk_frozen BK157.out 3;(try go_wp2);have n0_:=Aside0.mk (Kd.R_drew HO_161003.out);have n1_:=Aside0.mk (blk_drew BK157.out);have n2_:=Aside0.mk (blk_drew BK158.out);have n3_:=Aside0.mk (blk_drew BK159.out);have n4_:=Aside0.mk (blk_drew BK160.out);have n5_:=Aside0.mk (below_drew1 HB.out);clear HO_161003;clear BK157;clear BK158;clear BK159;clear BK160;clear HB;have HO_161003:=n0_;have BK157:=n1_;have BK158:=n2_;have BK159:=n3_;have BK160:=n4_;have HB:=n5_;clear n0_ n1_ n2_ n3_ n4_ n5_;have p161:0≤(x6_1:Int):=dt_;have q161:x6_1 < (l0_3.length:Int):=dt_;obtain ⟨ad161,e161,hx161_0,hx161_1⟩:=at_T45 HR0_3.out x6_1 p161 q161;have hw161_1:=hx161_1;have hw161_0:=hx161_0;cases e161;replace hx161_0:=(HB.out.cell (World.block_lt_of_cell? w _ hx161_0)).trans hx161_0;replace hx161_1:=(HB.out.cell (World.block_lt_of_cell? w _ hx161_1)).trans hx161_1;replace p161:=eq_true p161;replace q161:=eq_true q161;have p162:0≤(x6_1:Int):=dt_;have q162:x6_1 < (l1_3.length:Int):=dt_;obtain ⟨ad162,e162,hx162_0,hx162_1⟩:=at_T45 HR1_3.out x6_1 p162 q162;have hw162_1:=hx162_1;have hw162_0:=hx162_0;cases e162;replace hx162_0:=(HB.out.cell (World.block_lt_of_cell? w _ hx162_0)).trans hx162_0;replace hx162_1:=(HB.out.cell (World.block_lt_of_cell? w _ hx162_1)).trans hx162_1;replace p162:=eq_true p162;replace q162:=eq_true q162;(refine start_ (n:=19) (S:=fun w'=>w'.cell? ⟨gb160,0,none⟩=some (.bool a0_0)∧w'.cell? ⟨gb160,1,none⟩=some (.int .i64 a0_1)∧w'.cell? ⟨gb160,2,none⟩=some (.int .i64 a1_2)∧w'.cell? ⟨gb160,3,none⟩=some (u161003)∧w'.cell? ⟨gb157,0,none⟩=some (.bool a0_0)∧w'.cell? ⟨gb157,1,none⟩=some (.int .i64 a0_1)∧w'.cell? ⟨gb157,2,none⟩=some (.int .i64 a0_2)∧w'.cell? ⟨gb157,3,none⟩=some (.slice (some ad161) l0_3.length c0_3)∧w'.cell? ⟨gb158,0,none⟩=some (.bool a1_0)∧w'.cell? ⟨gb158,1,none⟩=some (.int .i64 a1_1)∧w'.cell? ⟨gb158,2,none⟩=some (.int .i64 a1_2)∧w'.cell? ⟨gb158,3,none⟩=some (.slice (some ad162) l1_3.length c1_3)∧w'.cell? (ad161.add ((x6_1).toNat * 2))=some (.int .i64 ((rd_T45 l0_3 x6_1).f0))∧w'.cell? ⟨(ad161.add ((x6_1).toNat * 2)).block,(ad161.add ((x6_1).toNat * 2)).off+1,none⟩=some (.int .i64 ((rd_T45 l0_3 x6_1).f1))∧w'.cell? (ad162.add ((x6_1).toNat * 2))=some (.int .i64 ((rd_T45 l1_3 x6_1).f0))∧w'.cell? ⟨(ad162.add ((x6_1).toNat * 2)).block,(ad162.add ((x6_1).toNat * 2)).off+1,none⟩=some (.int .i64 ((rd_T45 l1_3 x6_1).f1))) (ds:=[18]) #[false,false,false,false,false,false,false,false,false,false,false,false,false,false,false,false,false,false,false] (by kernel_rfl) rfl rfl ⟨(blk_cell BK160.out 0).trans rfl,(blk_cell BK160.out 1).trans rfl,(blk_cell BK160.out 2).trans rfl,(blk_cell BK160.out 3).trans rfl,(blk_cell BK157.out 0).trans rfl,(blk_cell BK157.out 1).trans rfl,(blk_cell BK157.out 2).trans rfl,(blk_cell BK157.out 3).trans rfl,(blk_cell BK158.out 0).trans rfl,(blk_cell BK158.out 1).trans rfl,(blk_cell BK158.out 2).trans rfl,(blk_cell BK158.out 3).trans rfl,((HB.out.cell (World.block_lt_of_cell? w _ hw161_0)).trans hw161_0),((HB.out.cell (World.block_lt_of_cell? w _ hw161_1)).trans hw161_1),((HB.out.cell (World.block_lt_of_cell? w _ hw162_0)).trans hw162_0),((HB.out.cell (World.block_lt_of_cell? w _ hw162_1)).trans hw162_1)⟩ (fun hHeld=>?_);refine with_tabW sennitref05_longer.tab5 sennitref05_longer.bits5 (fun HT_ HW_=>?_));(generalize wr.drew=w24 at HO_161003 BK157 BK158 BK159 BK160 HB hx161_0 hx161_1 hx162_0 hx162_1 hHeld ⊢);refine pq_ (i:=0) (N:=some 24) (hc:=any_of HT_.out (by kernel_rfl)) #[true,false,false,false,false,false,false,false,false,false,false,false,false,false,false,false,false,false,false] ?_;refine pure_ (i:=2) (N:=some 26) (v:=?_) (a':=?_) #[true,false,true,false,false,false,false,false,false,false,false,false,false,false,false,false,false,false,false] rfl rfl (any_of HT_.out (by kernel_rfl)) (fun _ _ _ h=>h) (Or.inl ⟨by rfl,?_⟩) ?_ ?_;rotate_left;(· intro w';go_simp;(with_reducible rfl))
       rotate_left;(· simp only [Act.put,List.setIfInBounds_toArray,List.set_cons_zero,List.set_cons_succ,i64_w,i32_w];rfl);refine pq_ (i:=4) (N:=some 28) (hc:=any_of HT_.out (by kernel_rfl)) #[true,false,true,false,true,false,false,false,false,false,false,false,false,false,false,false,false,false,false] ?_;refine pq_ (i:=8) (N:=some 32) (hc:=any_of HT_.out (by kernel_rfl)) #[true,false,true,false,true,false,false,false,true,false,false,false,false,false,false,false,false,false,false] ?_;refine pq_ (i:=10) (N:=some 34) (hc:=any_of HT_.out (by kernel_rfl)) #[true,false,true,false,true,false,false,false,true,false,true,false,false,false,false,false,false,false,false] ?_;refine tq_ (i:=1) (N:=some 25) (hc:=take_ofW HT_.out HW_.out (by kernel_rfl)) #[true,true,true,false,true,false,false,false,true,false,true,false,false,false,false,false,false,false,false] hHeld ?_;refine tq_ (i:=3) (N:=some 27) (hc:=take_ofW HT_.out HW_.out (by kernel_rfl)) #[true,true,true,true,true,false,false,false,true,false,true,false,false,false,false,false,false,false,false] hHeld ?_;refine pq_ (i:=5) (N:=some 29) (hc:=any_of HT_.out (by kernel_rfl)) #[true,true,true,true,true,true,false,false,true,false,true,false,false,false,false,false,false,false,false] ?_;refine pq_ (i:=6) (N:=some 30) (hc:=any_of HT_.out (by kernel_rfl)) #[true,true,true,true,true,true,true,false,true,false,true,false,false,false,false,false,false,false,false] ?_;refine tq_ (i:=7) (N:=some 31) (hc:=take_ofW HT_.out HW_.out (by kernel_rfl)) #[true,true,true,true,true,true,true,true,true,false,true,false,false,false,false,false,false,false,false] hHeld ?_;refine tq_ (i:=9) (N:=some 33) (hc:=take_ofW HT_.out HW_.out (by kernel_rfl)) #[true,true,true,true,true,true,true,true,true,true,true,false,false,false,false,false,false,false,false] hHeld ?_;refine pq_ (i:=11) (N:=some 35) (hc:=any_of HT_.out (by kernel_rfl)) #[true,true,true,true,true,true,true,true,true,true,true,true,false,false,false,false,false,false,false] ?_;refine pq_ (i:=12) (N:=some 36) (hc:=any_of HT_.out (by kernel_rfl)) #[true,true,true,true,true,true,true,true,true,true,true,true,true,false,false,false,false,false,false] ?_;refine tq_ (i:=13) (N:=some 37) (hc:=take_ofW HT_.out HW_.out (by kernel_rfl)) #[true,true,true,true,true,true,true,true,true,true,true,true,true,true,false,false,false,false,false] hHeld ?_
       refine pq_ (i:=14) (N:=some 38) (hc:=any_of HT_.out (by kernel_rfl)) #[true,true,true,true,true,true,true,true,true,true,true,true,true,true,true,false,false,false,false] ?_;refine one_ (i:=15) (N:=some 39) #[true,true,true,true,true,true,true,true,true,true,true,true,true,true,true,true,false,false,false] rfl rfl (one_of HT_.out (by kernel_rfl)) (by decide) (fun K hK=>?_);refine value_ (w1:=?_) (v:=?_) (by rfl) rfl ?_ ?_;rotate_left 2
       ·
        go_simp;constructor;(· rfl);(· rfl)
       refine hK.out _ _ ⟨(blk_cell (blk_alloc BK160.out _) 0).trans rfl,(blk_cell (blk_alloc BK160.out _) 1).trans rfl,(blk_cell (blk_alloc BK160.out _) 2).trans rfl,(blk_cell (blk_alloc BK160.out _) 3).trans rfl,(blk_cell (blk_alloc BK157.out _) 0).trans rfl,(blk_cell (blk_alloc BK157.out _) 1).trans rfl,(blk_cell (blk_alloc BK157.out _) 2).trans rfl,(blk_cell (blk_alloc BK157.out _) 3).trans rfl,(blk_cell (blk_alloc BK158.out _) 0).trans rfl,(blk_cell (blk_alloc BK158.out _) 1).trans rfl,(blk_cell (blk_alloc BK158.out _) 2).trans rfl,(blk_cell (blk_alloc BK158.out _) 3).trans rfl,(World.cell?_alloc_lt _ _ _ (World.block_lt_of_cell? _ _ (((HB.out.cell (World.block_lt_of_cell? w _ hw161_0)).trans hw161_0)))).trans (((HB.out.cell (World.block_lt_of_cell? w _ hw161_0)).trans hw161_0)),(World.cell?_alloc_lt _ _ _ (World.block_lt_of_cell? _ _ (((HB.out.cell (World.block_lt_of_cell? w _ hw161_1)).trans hw161_1)))).trans (((HB.out.cell (World.block_lt_of_cell? w _ hw161_1)).trans hw161_1)),(World.cell?_alloc_lt _ _ _ (World.block_lt_of_cell? _ _ (((HB.out.cell (World.block_lt_of_cell? w _ hw162_0)).trans hw162_0)))).trans (((HB.out.cell (World.block_lt_of_cell? w _ hw162_0)).trans hw162_0)),(World.cell?_alloc_lt _ _ _ (World.block_lt_of_cell? _ _ (((HB.out.cell (World.block_lt_of_cell? w _ hw162_1)).trans hw162_1)))).trans (((HB.out.cell (World.block_lt_of_cell? w _ hw162_1)).trans hw162_1))⟩ (fun hHeld=>?_);clear hK K;refine nq_ (N:=some 39) ?_;refine one_ (i:=16) (N:=some 40) #[true,true,true,true,true,true,true,true,true,true,true,true,true,true,true,true,true,false,false] rfl rfl (one_of HT_.out (by kernel_rfl)) (by decide) (fun K hK=>?_);refine Kd.R_append_step k45 (w0:=w) w.heap.size (by rfl) (.tmp 25) (.tmp 39) 46 45 (.agg #[(.int .i64 0),(.int .i64 0)]) 16 rfl Tryz.underlying46 info45 rfl (by decide) (by omega) u161003 x161003_1 (⟨(rd_T45 l0_3 x6_1).f0,(rd_T45 l1_3 x6_1).f1⟩:S45) [.int .i64 ((rd_T45 l0_3 x6_1).f0), .int .i64 ((rd_T45 l1_3 x6_1).f1)] (fun _=>True) (fun _=>False) rfl rfl ?aP (fun _ hk=>hk.elim) ?aF ?aO ?aB ?aS ?aL ?_;(case aP=>exact k45_mkM _ _ _ (⟨(rd_T45 l0_3 x6_1).f0,(rd_T45 l1_3 x6_1).f1⟩:S45));(case aB=>exact (by repeat (first | (with_reducible first | exact HB.out | apply below_alloc | apply pw_below_drewN | apply below_drew1 | refine below_set ?_ GE157.out | refine below_set ?_ GE158.out | refine below_set ?_ GE159.out | refine below_set ?_ GE160.out) | exact HB.out)));(case aF=>exact (fun _ _=>trivial));(case aO=>exact (pR_ HO_161003.out));(case aS=>exact (below_size (by repeat (first | (with_reducible first | exact HB.out | apply below_alloc | apply pw_below_drewN | apply below_drew1 | refine below_set ?_ GE157.out | refine below_set ?_ GE158.out | refine below_set ?_ GE159.out | refine below_set ?_ GE160.out) | exact HB.out))));(case aL=>have:=LMc19.out;omega);intro v164 w25 ho hb hg hat;(rw [← Ny163.out] at ho);have n0_:=Aside0.mk (blk_grown (g:=gb157) (o := .cells #[.bool a0_0, .int .i64 a0_1, .int .i64 a0_2, .slice (some ad161) l0_3.length c0_3] 48 (0,0)) (pK_ BK157.out) hg (Kd.R_ne HO_161003.out BK157.out (by decide)));have n1_:=Aside0.mk (blk_grown (g:=gb158) (o := .cells #[.bool a1_0, .int .i64 a1_1, .int .i64 a1_2, .slice (some ad162) l1_3.length c1_3] 48 (0,0)) (pK_ BK158.out) hg (Kd.R_ne HO_161003.out BK158.out (by decide)));have n2_:=Aside0.mk (blk_grown (g:=gb159) (o := .cells #[.bool false, .int .i64 0, .int .i64 0, .slice none 0 0] 48 (0,0)) (pK_ BK159.out) hg (Kd.R_ne HO_161003.out BK159.out (by decide)));have n3_:=Aside0.mk (blk_grown (g:=gb160) (o := .cells #[.bool a0_0, .int .i64 a0_1, .int .i64 a1_2,u161003] 48 (0,0)) (pK_ BK160.out) hg (Kd.R_ne HO_161003.out BK160.out (by decide)));have n4_:=Aside0.mk (hb);have n5_:=Aside0.mk (ho);clear BK157;clear BK158;clear BK159;clear BK160;clear HB;clear HO_161003;have BK157:=n0_;have BK158:=n1_;have BK159:=n2_;have BK160:=n3_;have HB:=n4_;have HO165:=n5_;clear n0_ n1_ n2_ n3_ n4_ n5_;clear ho hb hg hat;obtain ⟨Ao26,co26,eo26⟩:=Kd.R_slice HO165.out;(first | subst eo26 | (injection eo26 with f1_ f2_ f3_;have f4_:=f1_.symm;have f5_:=f3_.symm;clear f1_ f2_ f3_;subst f4_;subst f5_));refine hK.out _ _ ⟨(blk_cell BK160.out 0).trans rfl,(blk_cell BK160.out 1).trans rfl,(blk_cell BK160.out 2).trans rfl,(blk_cell BK160.out 3).trans rfl,(blk_cell BK157.out 0).trans rfl,(blk_cell BK157.out 1).trans rfl,(blk_cell BK157.out 2).trans rfl,(blk_cell BK157.out 3).trans rfl,(blk_cell BK158.out 0).trans rfl,(blk_cell BK158.out 1).trans rfl,(blk_cell BK158.out 2).trans rfl,(blk_cell BK158.out 3).trans rfl,((HB.out.cell (World.block_lt_of_cell? w _ hw161_0)).trans hw161_0),((HB.out.cell (World.block_lt_of_cell? w _ hw161_1)).trans hw161_1),((HB.out.cell (World.block_lt_of_cell? w _ hw162_0)).trans hw162_0),((HB.out.cell (World.block_lt_of_cell? w _ hw162_1)).trans hw162_1)⟩ (fun hHeld=>?_);clear hK K;refine nq_ (N:=some 40) ?_
       refine pq_ (i:=17) (N:=some 41) (hc:=any_of HT_.out (by kernel_rfl)) #[true,true,true,true,true,true,true,true,true,true,true,true,true,true,true,true,true,true,false] ?_;refine last_ (i:=18) (N:=none) #[true,true,true,true,true,true,true,true,true,true,true,true,true,true,true,true,true,true,true] rfl rfl (one_of HT_.out (by kernel_rfl)) (by decide) (fun K hK=>?_);have hs27:w25.cell? ⟨gb160,3,none⟩=some (u161003):=(blk_cell BK160.out 3).trans rfl;have hfs27:=blk_frozen BK160.out 3;have hns27_0:=NB157_160.out;have hns27_1:=NB158_160.out;have hns27_2:=NB159_160.out;have hms27_0:=NB160_157.out;have hms27_1:=NB160_158.out;have hms27_2:=NB160_159.out;refine skip_ (w1:=?_) (by rfl) rfl ?_ ?_;rotate_left;(· go_simp;rfl);refine hK.out _ _ ?_;clear hK K;refine done_ (done_of HT_.out (by kernel_rfl)) ?_;(try go_wp2)
       go_roundg k1
       (case measure=>have:=HK1.out;omega);(case rel=>exact ⟨(wrap64 (x6_1+1)),(y163),(.slice Ao26 y163.length co26),rs_,H',⟨by have:=HK1.out;omega⟩,⟨by (with_reducible repeat (first | apply Kd.R_alloc | apply Kd.R_drewN | apply Kd.R_drew));exact Kd.R_mono (Kd.R_far (p:=⟨gb160,3,none⟩) (Kd.R_types HO165.out BK160.out (by decide)) (fun _ hk=>hk.2) (.slice Ao26 y163.length co26)) (fun _ hk=>trivial)⟩,⟨by (with_reducible repeat (first | refine blk_drewN ?_ _ | refine blk_drew ?_ | refine blk_alloc ?_ _));refine blk_far ?_ NB157_160.out _;(with_reducible repeat (first | refine blk_drewN ?_ _ | refine blk_drew ?_ | refine blk_alloc ?_ _));exact BK157.out⟩,⟨by (with_reducible repeat (first | refine blk_drewN ?_ _ | refine blk_drew ?_ | refine blk_alloc ?_ _));refine blk_far ?_ NB158_160.out _;(with_reducible repeat (first | refine blk_drewN ?_ _ | refine blk_drew ?_ | refine blk_alloc ?_ _));exact BK158.out⟩,⟨by (with_reducible repeat (first | refine blk_drewN ?_ _ | refine blk_drew ?_ | refine blk_alloc ?_ _));refine blk_far ?_ NB159_160.out _;(with_reducible repeat (first | refine blk_drewN ?_ _ | refine blk_drew ?_ | refine blk_alloc ?_ _));exact BK159.out⟩,⟨by (with_reducible repeat (first | refine blk_drewN ?_ _ | refine blk_drew ?_ | refine blk_alloc ?_ _));refine blk_put (cs:=#[.bool a0_0, .int .i64 a0_1, .int .i64 a1_2,u161003]) ?_ 3 _ rfl;(with_reducible repeat (first | refine blk_drewN ?_ _ | refine blk_drew ?_ | refine blk_alloc ?_ _));exact BK160.out⟩,⟨by repeat (first | (with_reducible first | exact HB.out | apply below_alloc | apply pw_below_drewN | apply below_drew1 | refine below_set ?_ GE157.out | refine below_set ?_ GE158.out | refine below_set ?_ GE159.out | refine below_set ?_ GE160.out) | exact HB.out)⟩⟩)
      (· (rw [if_neg c19] at H);exact absurd H (by simp))
     (· (rw [if_neg c18] at H);exact absurd H (by simp))
    (· (rw [if_neg c17] at H);exact absurd H (by simp))
   (· (rw [if_neg c16] at H);have c16b0:decide (x6_1 < (l0_3.length:Int))=false:=decide_eq_false c16;clear c16;(simp only [Option.some.injEq,Prod.mk.injEq] at H);obtain ⟨rfl,rfl,rfl,rfl⟩:=H;have hnb28:=NB157_158.out;have hnc28:=NB158_157.out;have hnb29:=NB157_159.out;have hnc29:=NB159_157.out;have hnb30:=NB157_160.out;have hnc30:=NB160_157.out;have hcz31_0:wr.cell? ⟨gb157,0,none⟩=some (.bool a0_0):=(blk_cell BK157.out 0).trans rfl;have hcz31_1:wr.cell? ⟨gb157,1,none⟩=some (.int .i64 a0_1):=(blk_cell BK157.out 1).trans rfl;have hcz31_2:wr.cell? ⟨gb157,2,none⟩=some (.int .i64 a0_2):=(blk_cell BK157.out 2).trans rfl;have hcz31_3:wr.cell? ⟨gb157,3,none⟩=some (.slice A0_3 l0_3.length c0_3):=(blk_cell BK157.out 3).trans rfl;have hfz31_0:=blk_frozen BK157.out 0;have hfz31_1:=blk_frozen BK157.out 1;have hfz31_2:=blk_frozen BK157.out 2;have hfz31_3:=blk_frozen BK157.out 3;have hnb32:=NB160_158.out;have hnc32:=NB158_160.out;have hnb33:=NB160_159.out;have hnc33:=NB159_160.out;have hcz34_0:wr.cell? ⟨gb160,0,none⟩=some (.bool a0_0):=(blk_cell BK160.out 0).trans rfl;have hcz34_1:wr.cell? ⟨gb160,1,none⟩=some (.int .i64 a0_1):=(blk_cell BK160.out 1).trans rfl;have hcz34_2:wr.cell? ⟨gb160,2,none⟩=some (.int .i64 a1_2):=(blk_cell BK160.out 2).trans rfl;have hcz34_3:wr.cell? ⟨gb160,3,none⟩=some (u161003):=(blk_cell BK160.out 3).trans rfl;have hfz34_0:=blk_frozen BK160.out 0;have hfz34_1:=blk_frozen BK160.out 1;have hfz34_2:=blk_frozen BK160.out 2;have hfz34_3:=blk_frozen BK160.out 3;have hnb35:=NB159_158.out;have hnc35:=NB158_159.out;have hcz36_0:wr.cell? ⟨gb159,0,none⟩=some (.bool false):=(blk_cell BK159.out 0).trans rfl;have hcz36_1:wr.cell? ⟨gb159,1,none⟩=some (.int .i64 0):=(blk_cell BK159.out 1).trans rfl;have hcz36_2:wr.cell? ⟨gb159,2,none⟩=some (.int .i64 0):=(blk_cell BK159.out 2).trans rfl;have hcz36_3:wr.cell? ⟨gb159,3,none⟩=some (.slice none 0 0):=(blk_cell BK159.out 3).trans rfl;have hfz36_0:=blk_frozen BK159.out 0;have hfz36_1:=blk_frozen BK159.out 1;have hfz36_2:=blk_frozen BK159.out 2;have hfz36_3:=blk_frozen BK159.out 3;obtain ⟨Ao37,co37,eo37⟩:=Kd.R_slice HO_161003.out;subst eo37;go_wp2;refine bodyPost_ret (results_cell_row rfl _ _ gb159 48 #[.bool a0_0, .int .i64 a0_1, .int .i64 a1_2, .slice Ao37 x161003_1.length co37] (0,0) _ rfl (by (with_reducible repeat (first | refine blk_drewN ?_ _ | refine blk_drew ?_ | refine blk_alloc ?_ _));refine blk_put (cs:=#[.bool a0_0, .int .i64 a0_1, .int .i64 a1_2, .slice none 0 0]) ?_ 3 _ rfl;(with_reducible repeat (first | refine blk_drewN ?_ _ | refine blk_drew ?_ | refine blk_alloc ?_ _));refine blk_put (cs:=#[.bool a0_0, .int .i64 a0_1, .int .i64 0, .slice none 0 0]) ?_ 2 _ rfl;(with_reducible repeat (first | refine blk_drewN ?_ _ | refine blk_drew ?_ | refine blk_alloc ?_ _));refine blk_put (cs:=#[.bool a0_0, .int .i64 0, .int .i64 0, .slice none 0 0]) ?_ 1 _ rfl;(with_reducible repeat (first | refine blk_drewN ?_ _ | refine blk_drew ?_ | refine blk_alloc ?_ _));refine blk_put (cs:=#[.bool false, .int .i64 0, .int .i64 0, .slice none 0 0]) ?_ 0 _ rfl;(with_reducible repeat (first | refine blk_drewN ?_ _ | refine blk_drew ?_ | refine blk_alloc ?_ _));exact BK159.out) Tryz.underlying48 rfl (by kernel_rfl)) rfl ?_;exact ⟨_,by first | rfl | (simp [errW_none,errW_some] <;> rfl) | (simp [*,errW_none,errW_some] <;> rfl),by (with_reducible repeat (first | apply Kd.R_alloc | apply Kd.R_drewN | apply Kd.R_drew));exact Kd.R_mono (Kd.R_far (p:=⟨gb159,3,none⟩) (Kd.R_far (p:=⟨gb159,2,none⟩) (Kd.R_far (p:=⟨gb159,1,none⟩) (Kd.R_far (p:=⟨gb159,0,none⟩) (Kd.R_types HO_161003.out BK159.out (by decide)) (fun _ hk=>hk.2) (.bool a0_0)) (fun _ hk=>hk.2) (.int .i64 a0_1)) (fun _ hk=>hk.2) (.int .i64 a1_2)) (fun _ hk=>hk.2) (.slice Ao37 x161003_1.length co37)) (fun _ hk=>trivial),by repeat (first | (with_reducible first | exact HB.out | apply below_alloc | apply pw_below_drewN | apply below_drew1 | refine below_set ?_ GE157.out | refine below_set ?_ GE158.out | refine below_set ?_ GE159.out | refine below_set ?_ GE160.out) | exact HB.out)⟩)
end Go.Proofs.YtbbhdbeaikclcaaGreat.X
namespace Go.Proofs.YtbbhdbeaikclcaaGreat.X
open Go.RowKit Go.Proofs.YtbbhdbeaikclcaaGreatW.PrintWords Go.Proofs.YtbbhdbeaikclcaaGreatW.PrintLast Go.Proofs.YtbbhdbeaikclcaaGreatW.PrintMore
/-- A block of known cells, read as a row. -/
theorem C_blk {α:Type} {d:Kd α} {W:World} {g:Nat} {t:TypeId} {fr:Nat × Nat} {xs:List α} {inner:List Value} (h:W.heap[g]? = some (.cells inner.toArray t fr)) (hr:Reps (d.K W) d.sz xs inner) (hl:xs.length≤9223372036854775807):d.C W (some ⟨g,0,none⟩) xs.length xs:=by
 refine ⟨rfl,hl,fun _=>⟨_,rfl,fun j p hj=>⟨_,?_,hr.2 j p hj,fun i u hu=>?_⟩⟩⟩;(· have hjl:=(List.getElem?_eq_some_iff.1 hj).1;(have h1:j * d.sz+d.sz≤inner.length:=by rw [hr.1,← Nat.succ_mul];exact Nat.mul_le_mul_right _ hjl);(rw [List.length_take,List.length_drop];omega))
 ·
  have hil:=(List.getElem?_eq_some_iff.1 hu).1;(rw [List.length_take] at hil);(rw [List.getElem?_take_of_lt (by omega),List.getElem?_drop] at hu);(have:W.cell? ⟨g,j * d.sz+i,none⟩=some u:=by rw [cell_of_row W g _ _ t fr h];simpa using hu);obtain ⟨q,hq⟩ : ∃ q,j * d.sz+i=q:=⟨_,rfl⟩;(rw [hq] at this ⊢)
  by_cases e:q=0
  (· (subst e;simpa [Addr.add] using this));(· simpa [Addr.add,e] using this)
/-- A step of a call that keeps the old: as seen from the law's world. -/
theorem far_ {W w w':World} (h:Below W.heap.size W w) (hb:Below w.heap.size w w'):Below W.heap.size W w':=h.trans (hb.mono h.size)
/-- An element that is a slice. -/
theorem at_slice {α:Type} {e:Nat} {d:Kd α} {w:World} {A:Option Addr} {n:Nat} {xs:List (List α)} (h:(Kd.slice e d).C w A n xs) (i:Nat) (hi:i < n) :
    ∃ ad A0 c0,A=some ad∧w.cell? (ad.add i)=some (.slice A0 (xs.getD i []).length c0)∧(xs.getD i []).length≤c0∧d.C w A0 (xs.getD i []).length (xs.getD i []):=by
 obtain ⟨ad,c,e1,_,⟨A0,c0,e2,e3,e4⟩,e5⟩:=ReadsRow.get_ h [] (i:Int) (by omega) (by omega);(rw [Int.toNat_natCast] at e2 e3 e4 e5);subst e2;have:=e5 0 _ rfl;(rw [show i * (Kd.slice e d).sz+0=i from by rw [show (Kd.slice e d).sz=1 from rfl];omega] at this);exact ⟨ad,A0,c0,e1,this,e3,e4⟩
theorem at_str {w:World} {A:Option Addr} {n:Nat} {xs:List ByteArray} (h:Kd.string.C w A n xs) (i:Nat) (hi:i < n) : ∃ ad,A=some ad∧w.cell? (ad.add i)=some (.string (xs.getD i ByteArray.empty)):=by
 obtain ⟨ad,e,hc⟩:=Kd.at_string h (i:Int) (by omega) (by omega);(rw [Int.toNat_natCast] at hc);refine ⟨ad,e,?_⟩;rw [hc,rdOf,Int.toNat_natCast]
theorem at_num {k:IntKind} {w:World} {A:Option Addr} {n:Nat} {xs:List Int} (h:(Kd.int k).C w A n xs) (i:Nat) (hi:i < n) : ∃ ad,A=some ad∧w.cell? (ad.add i)=some (.int k (xs.getD i 0)):=by
 obtain ⟨ad,e,hc⟩:=Kd.at_int h (i:Int) (by omega) (by omega);(rw [Int.toNat_natCast] at hc);refine ⟨ad,e,?_⟩;rw [hc,rd,Int.toNat_natCast]
theorem getD_get {α:Type} {d:α} {l:List α} {i:Nat} (h:i < l.length):l.getD i d=l[i]:=by simp [h]
/-- A kind, read at one world. -/
def heldK {α:Type} (w0:World) (d:Kd α):Kd α where
  sz:=d.sz
  E:=[]
  K:=fun _ x cs=>d.K w0 x cs
  M:=fun _ _ _ x cs=>d.K w0 x cs
  K_len:=fun h=>d.K_len h
  K_one:=fun h=>d.K_one h
  K_below:=fun _ h=>h
  K_of_M:=fun h=>h
  M_mono:=fun _ h=>h
  M_bound:=fun h=>h
  M_move:=fun _ h=>h
  M_lower:=fun _ h=>h
section
variable {α:Type} {d:Kd α} {w0 w w1:World} {A:Option Addr} {n e base:Nat} {ok:Nat→Prop} {v:Value} {xs:List α}
theorem held_C (h:d.C w0 A n xs) (hb:Below w0.heap.size w0 w):(heldK w0 d).C w A n xs:=by
 refine ⟨h.1,h.2.1,fun hn=>?_⟩;obtain ⟨ad,e,hc⟩:=h.2.2 hn;refine ⟨ad,e,fun j p hj=>?_⟩;obtain ⟨c,h1,h2,h3⟩:=hc j p hj;exact ⟨c,h1,h2,fun i u hu=>(hb.cell (World.block_lt_of_cell? w0 _ (h3 i u hu))).trans (h3 i u hu)⟩
theorem C_held (h:(heldK w0 d).C w A n xs) (hb:Below w0.heap.size w0 w):d.C w A n xs:=by
 refine ⟨h.1,h.2.1,fun hn=>?_⟩;obtain ⟨ad,e,hc⟩:=h.2.2 hn;refine ⟨ad,e,fun j p hj=>?_⟩;obtain ⟨c,h1,h2,h3⟩:=hc j p hj;exact ⟨c,h1,d.K_below hb h2,h3⟩
theorem R_held_reads (h:(heldK w0 d).R e w base ok v xs) (hb:Below w0.heap.size w0 w) : ∃ A c,v = .slice A xs.length c∧xs.length≤c∧d.C w A xs.length xs:=by
 obtain ⟨A,c,rfl,hl,hC⟩:=Kd.R_reads h;exact ⟨A,c,rfl,hl,C_held hC hb⟩
end
theorem strs_nil (w:World):(Kd.slice 9 Kd.string).K w [] [.slice none 0 0]:=⟨none,0,rfl,Nat.le_refl _,Kd.C_nil _ _⟩
theorem blkNe {W:World} {a b:Nat} {cs cs':Array Value} {t t':TypeId} (h:W.heap[a]? = some (.cells cs t (0,0))) (k:W.heap[b]? = some (.cells cs' t' (0,0))) (ht:t≠t'):a≠b:=by
 rintro rfl;(rw [h] at k);(injection k with k);(injection k with _ e _);exact ht e
theorem setKeep {W:World} {b g j:Nat} {o:Obj} (h:W.heap[b]? = some o) (hne:b≠g) (v:Value):(W.setCell ⟨g,j,none⟩ v).heap[b]? = some o:=(heap_set_other hne v).trans h
theorem farKeep {W W':World} {k:Nat} {o:Obj} (h:W.heap[k]? = some o) (hb:Below W.heap.size W W'):W'.heap[k]? = some o:=(hb.block k (Array.getElem?_eq_some_iff.1 h).1).trans h
theorem newKeep {W:World} {k:Nat} {o:Obj} (h:W.heap[k]? = some o) (o':Obj):(W.alloc o').heap[k]? = some o:=(heap_alloc_old _ _ (Array.getElem?_eq_some_iff.1 h).1).trans h
theorem newBelow (W:World) (o:Obj):Below W.heap.size W (W.alloc o):=(Below.refl _ W).alloc (Nat.le_refl _) o
/-- A part of a list, with three bounds. -/
def cutA (A:Option Addr) (f t:Nat):Option Addr:=if t=f then A else A.map (·.add f)
def cutL {α:Type} (l:List α) (f t:Nat):List α:=(l.take t).drop f
theorem cutL_len {α:Type} {l:List α} {f t:Nat} (h2:t≤l.length):(cutL l f t).length=t - f:=by
 (rw [cutL,List.length_drop,List.length_take];omega)
theorem C_cutA {α:Type} {d:Kd α} {w:World} {A:Option Addr} {l:List α} {f t:Nat} (hsz:d.sz=1) (h:d.C w A l.length l) (h1:f≤t) (h2:t≤l.length):d.C w (cutA A f t) (cutL l f t).length (cutL l f t):=by
 by_cases e:t=f
 (· subst e;have hz:cutL l t t=[]:=List.eq_nil_of_length_eq_zero (by rw [cutL_len h2];omega);have hx:=Kd.C_take h (Nat.zero_le l.length);rw [cutA,if_pos rfl,hz];simpa using hx);(· have hm:=Kd.C_mid (c:=l.length) h h1 h2 (Nat.le_refl _);(rw [if_neg (by omega),hsz,Nat.mul_one] at hm);rw [cutA,if_neg e];exact hm)
theorem F_cutA {α:Type} {d:Kd α} {w:World} {ok:Nat→Prop} {A:Option Addr} {l:List α} {f t:Nat} (hsz:d.sz=1) (h:Kd.F d w ok A l.length l) (h1:f≤t) (h2:t≤l.length):Kd.F d w ok (cutA A f t) (cutL l f t).length (cutL l f t):=Kd.F_imp h (fun _ hC=>C_cutA hsz hC h1 h2)
theorem run_cut3 {P:Program} (t e:TypeId) {i:TypeInfo} (ht:P.underlying t=some (.slice e)) (hi:P.info? e=some i) (hsz:i.size=1) (A:Option Addr) (n c lo hi':Nat) (h1:lo≤hi') (h2:hi'≤n) (hc:n≤c) :
    ∀ W:World,(Instr.slice t (.slice A n c) (some (.int .i64 (lo:Int))) (some (.int .i64 (hi':Int))) (some (.int .i64 (hi':Int)))).run P W = .ok (.slice (cutA A lo hi') (hi' - lo) (hi' - lo)) W:=by
 intro W;(have hel:P.elem t=e:=by simp [Program.elem,ht]);(have hu:P.underlying t=some (.slice (P.elem t)):=by rw [hel];exact ht);rw [run_slice_lhm W t A n c hu .i64 .i64 .i64 (lo:Int) (hi':Int) (hi':Int) (by omega) (by omega) (by omega) (by omega),hel];simp [sizeOf,typeInfo,hi,hsz,sliced,Result.andThen,cutA]
end Go.Proofs.YtbbhdbeaikclcaaGreat.X
namespace Go.Proofs.YtbbhdbeaikclcaaGreat.X
/-- Where a text stands first; behind all, if it doesn't. -/
def place (s:ByteArray):List ByteArray→Nat
  | []=>0
  | x :: xs=>if x=s then 0 else place s xs+1
/-- A table, and one text more, if it is new. -/
def addT (t:List ByteArray) (s:ByteArray):List ByteArray:=if place s t < t.length then t else t ++ [s]
theorem place_le (s:ByteArray) : ∀ t,place s t≤t.length
 | []=>Nat.le_refl _
 | x :: xs=>by
  have:=place_le s xs;simp only [place,List.length_cons];(split <;> omega)
theorem place_get (s:ByteArray) : ∀ {t:List ByteArray} (h:place s t < t.length),t[place s t]=s
 | [],h=>by simp [place] at h
 | x :: xs,h=>by
  by_cases e:x=s
  (· simp [place,e]);(· (have h':place s xs < xs.length:=by simpa [place,e] using h);simp only [place,e,if_false,List.getElem_cons_succ];exact place_get s h')
theorem place_mem (s:ByteArray) : ∀ {t:List ByteArray},s ∈ t↔place s t < t.length
 | []=>by simp [place]
 | x :: xs=>by
  by_cases e:x=s
  (· simp [place,e]);(· (have e' : ¬ s=x:=fun h=>e h.symm);simp [place,e,e',place_mem s (t:=xs)])
theorem place_append (s:ByteArray) : ∀ {t:List ByteArray} (u:List ByteArray),place s t < t.length→place s (t ++ u)=place s t
 | [],u,h=>by simp [place] at h
 | x :: xs,u,h=>by
  by_cases e:x=s
  (· simp [place,e]);(· (have h':place s xs < xs.length:=by simpa [place,e] using h);simp [place,e,place_append s u h'])
theorem place_new (s:ByteArray) : ∀ {t:List ByteArray} (u:List ByteArray),¬ place s t < t.length→place s (t ++ s :: u)=t.length
 | [],u,h=>by simp [place]
 | x :: xs,u,h=>by
  by_cases e:x=s
  (· (simp [place,e] at h));(· (have h' : ¬ place s xs < xs.length:=by simpa [place,e] using h);simp [place,e,place_new s u h'])
theorem place_not {s:ByteArray} {t:List ByteArray} (h : ¬ place s t < t.length):place s t=t.length:=by
 (have:=place_le s t;omega)
theorem addT_length (t:List ByteArray) (s:ByteArray):t.length≤(addT t s).length∧(addT t s).length≤t.length+1:=by
 (unfold addT;split <;> simp)
/-- The numbers of some texts, and the table then. -/
def idsOne:List ByteArray→List ByteArray→List ByteArray × List Int
  | t,[]=>(t,[])
  | t,s :: l=>((idsOne (addT t s) l).1,(place s t:Int) :: (idsOne (addT t s) l).2)
def idsMany:List ByteArray→List (List ByteArray)→List (List Int)
  | _,[]=>[]
  | t,l :: ls=>(idsOne t l).2 :: idsMany (idsOne t l).1 ls
/-- The numbers of all texts of some files. -/
def idsAll (files:List (List ByteArray)):List (List Int):=idsMany [] files
theorem idsOne_length : ∀ (t l:List ByteArray),(idsOne t l).2.length=l.length
 | t,[]=>rfl
 | t,s :: l=>by simp [idsOne,idsOne_length (addT t s) l]
theorem idsOne_snoc : ∀ (t l:List ByteArray) (s:ByteArray),idsOne t (l ++ [s])=(addT (idsOne t l).1 s,(idsOne t l).2 ++ [(place s (idsOne t l).1:Int)])
 | t,[],s=>by simp [idsOne]
 | t,x :: l,s=>by simp [idsOne,idsOne_snoc (addT t x) l s]
theorem idsOne_table_le : ∀ (t l:List ByteArray),(idsOne t l).1.length≤t.length+l.length
 | t,[]=>by simp [idsOne]
 | t,s :: l=>by
  have h1:=idsOne_table_le (addT t s) l;have h2:=(addT_length t s).2;(simp only [idsOne,List.length_cons];omega)
theorem idsMany_length : ∀ (t:List ByteArray) (ls:List (List ByteArray)),(idsMany t ls).length=ls.length
 | _,[]=>rfl
 | t,l :: ls=>by simp [idsMany,idsMany_length (idsOne t l).1 ls]
/-- The table behind some files. -/
def tabOf:List ByteArray→List (List ByteArray)→List ByteArray
  | t,[]=>t
  | t,l :: ls=>tabOf (idsOne t l).1 ls
theorem tabOf_snoc : ∀ (t:List ByteArray) (ls:List (List ByteArray)) (l:List ByteArray),tabOf t (ls ++ [l])=(idsOne (tabOf t ls) l).1
 | t,[],l=>rfl
 | t,x :: ls,l=>tabOf_snoc (idsOne t x).1 ls l
theorem idsMany_snoc : ∀ (t:List ByteArray) (ls:List (List ByteArray)) (l:List ByteArray),idsMany t (ls ++ [l])=idsMany t ls ++ [(idsOne (tabOf t ls) l).2]
 | t,[],l=>rfl
 | t,x :: ls,l=>by simp [idsMany,tabOf,idsMany_snoc (idsOne t x).1 ls l]
/-- How long the longest common sequence is. -/
def lcsL:List Int→List Int→Nat
  | [],_=>0
  | _ :: _,[]=>0
  | x :: xs,y :: ys=>if x=y then lcsL xs ys+1 else max (lcsL xs (y :: ys)) (lcsL (x :: xs) ys)
  termination_by a b=>a.length+b.length
@[simp] theorem lcsL_nil_left (b:List Int):lcsL [] b=0:=by unfold lcsL;rfl
@[simp] theorem lcsL_nil_right (a:List Int):lcsL a []=0:=by cases a <;> (unfold lcsL;rfl)
theorem lcsL_cons (x y:Int) (xs ys:List Int):lcsL (x :: xs) (y :: ys)=if x=y then lcsL xs ys+1 else max (lcsL xs (y :: ys)) (lcsL (x :: xs) ys):=by
 rw [lcsL]
/-- What is done at two suffixes: 0 both are paired, 1 the first list's is passed over, 2 the second's. -/
def stepAt:List Int→List Int→Int
  | x :: xs,y :: ys=>if x=y then 0 else if lcsL (x :: xs) ys≤lcsL xs (y :: ys) then 1 else 2
  | _,_=>0
/-- The whole table, row by row. -/
def stepsOf (a b:List Int):List Int:=(List.range (a.length * b.length)).map fun k=>stepAt (a.drop (k / b.length)) (b.drop (k % b.length))
/-- With which place of the second list each of the first one's is paired: from the place j on. -/
def matchFrom:List Int→List Int→Nat→List Int
  | [],_,_=>[]
  | _ :: xs,[],j => -1 :: matchFrom xs [] j
  | x :: xs,y :: ys,j=>if x=y then (j:Int) :: matchFrom xs ys (j+1) else if lcsL (x :: xs) ys≤lcsL xs (y :: ys) then -1 :: matchFrom xs (y :: ys) j else matchFrom (x :: xs) ys (j+1)
  termination_by a b _=>a.length+b.length
def matchOf (a b:List Int):List Int:=matchFrom a b 0
/-- Common sequences: the longest one is as long as told, and there is one. -/
theorem lcsL_le (a b s:List Int):s.Sublist a→s.Sublist b→s.length≤lcsL a b:=by
 match a,b with
 | [],b=>intro h _;simp at h;simp [h]
 | x :: xs,[]=>intro _ h;simp at h;simp [h]
 | x :: xs,y :: ys =>
  intro h h';rw [lcsL_cons]
  by_cases e:x=y
  ·
   subst e;rw [if_pos rfl]
   cases s with
   | nil=>simp
   | cons z zs =>
    have h1:zs.Sublist xs:=by
     cases h with
     | cons _ h=>exact (List.sublist_cons_self z zs).trans h
     | cons_cons _ h=>exact h
    have h2:zs.Sublist ys:=by
     cases h' with
     | cons _ h=>exact (List.sublist_cons_self z zs).trans h
     | cons_cons _ h=>exact h
    have:=lcsL_le xs ys zs h1 h2;(simp;omega)
  ·
   rw [if_neg e]
   cases h with
   | cons _ h=>have:=lcsL_le xs (y :: ys) s h h';omega
   | cons_cons _ h =>
    cases h' with
    | cons _ h'=>have:=lcsL_le (x :: xs) ys _ (h.cons_cons x) h';omega
    | cons_cons _ h'=>exact absurd rfl e
 termination_by a.length+b.length
theorem lcsL_ex (a b:List Int) : ∃ s:List Int,s.Sublist a∧s.Sublist b∧s.length=lcsL a b:=by
 match a,b with
 | [],b=>exact ⟨[],by simp,by simp,by simp⟩
 | x :: xs,[]=>exact ⟨[],by simp,by simp,by simp⟩
 | x :: xs,y :: ys =>
  rw [lcsL_cons]
  by_cases e:x=y
  (· subst e;rw [if_pos rfl];obtain ⟨s,h1,h2,h3⟩:=lcsL_ex xs ys;exact ⟨x :: s,h1.cons_cons x,h2.cons_cons x,by simp [h3]⟩)
  ·
   rw [if_neg e];obtain ⟨s,h1,h2,h3⟩:=lcsL_ex xs (y :: ys);obtain ⟨s',h1',h2',h3'⟩:=lcsL_ex (x :: xs) ys
   rcases Nat.le_total (lcsL (x :: xs) ys) (lcsL xs (y :: ys)) with h | h
   (· exact ⟨s,h1.cons x,h2,by omega⟩);(· exact ⟨s',h1',h2'.cons y,by omega⟩)
 termination_by a.length+b.length
theorem lcsL_unique {a b:List Int} {n:Nat} (h1 : ∀ s:List Int,s.Sublist a→s.Sublist b→s.length≤n) (h2 : ∃ s:List Int,s.Sublist a∧s.Sublist b∧s.length=n):lcsL a b=n:=by
 obtain ⟨s,h3,h4,h5⟩:=lcsL_ex a b;obtain ⟨t,h6,h7,h8⟩:=h2;have:=h1 s h3 h4;have:=lcsL_le a b t h6 h7;omega
theorem lcsL_comm (a b:List Int):lcsL a b=lcsL b a :=
  lcsL_unique (fun s h h'=>lcsL_le b a s h' h) (let ⟨s,h1,h2,h3⟩:=lcsL_ex b a;⟨s,h2,h1,h3⟩)
theorem lcsL_le_left (a b:List Int):lcsL a b≤a.length:=let ⟨_,h1,_,h3⟩:=lcsL_ex a b;h3 ▸ h1.length_le
theorem lcsL_le_right (a b:List Int):lcsL a b≤b.length:=let ⟨_,_,h1,h3⟩:=lcsL_ex a b;h3 ▸ h1.length_le
theorem lcsL_step_left (x:Int) (a b:List Int):lcsL (x :: a) b≤lcsL a b+1:=by
 obtain ⟨s,h1,h2,h3⟩:=lcsL_ex (x :: a) b
 cases h1 with
 | cons _ h=>have:=lcsL_le a b s h h2;omega
 | @cons_cons s' _ _ h =>
  have:=lcsL_le a b s' h ((List.sublist_cons_self x s').trans h2);(simp at h3);omega
theorem lcsL_step_right (y:Int) (a b:List Int):lcsL a (y :: b)≤lcsL a b+1:=by
 (rw [lcsL_comm,lcsL_comm a b];exact lcsL_step_left y b a)
theorem matchFrom_nil (b:List Int) (j:Nat):matchFrom [] b j=[]:=by unfold matchFrom;rfl
theorem matchFrom_none (x:Int) (xs:List Int) (j:Nat):matchFrom (x :: xs) [] j = -1 :: matchFrom xs [] j:=by rw [matchFrom]
theorem matchFrom_cons (x y:Int) (xs ys:List Int) (j:Nat):matchFrom (x :: xs) (y :: ys) j=if x=y then (j:Int) :: matchFrom xs ys (j+1) else if lcsL (x :: xs) ys≤lcsL xs (y :: ys) then -1 :: matchFrom xs (y :: ys) j else matchFrom (x :: xs) ys (j+1):=by rw [matchFrom]
theorem matchFrom_rest (a:List Int) (j:Nat):matchFrom a [] j=List.replicate a.length (-1):=by
 induction a with
 | nil=>rw [matchFrom_nil];rfl
 | cons x a ih=>rw [matchFrom_none,ih];rfl
theorem matchFrom_length (a b:List Int) (j:Nat):(matchFrom a b j).length=a.length:=by
 match a,b with
 | [],b=>simp [matchFrom_nil]
 | x :: xs,[]=>simp [matchFrom_rest]
 | x :: xs,y :: ys =>
  rw [matchFrom_cons];split;(· simp [matchFrom_length xs ys])
  ·
   split;(· simp [matchFrom_length xs (y :: ys)]);(· exact matchFrom_length (x :: xs) ys _)
 termination_by a.length+b.length
/-- All that is told of a match: each place is told -1, or one of b's, that holds the same; they rise; as many are as the longest. -/
def Rises (a b:List Int) (j:Nat):List Int→Nat→Prop
  | [],n=>n=0∧True
  | m :: ms,n=>(m = -1∧Rises a.tail b j ms n)∨(∃ k n',m=((j+k:Nat):Int)∧n=n'+1∧b[k]? = a.head? ∧ a≠[]∧Rises a.tail (b.drop (k+1)) (j+k+1) ms n')
theorem rises_shift {a b:List Int} {j:Nat} {y:Int} : ∀ {ms:List Int} {n:Nat},ms.length=a.length→Rises a b (j+1) ms n→Rises a (y :: b) j ms n:=by
 intro ms
 induction ms generalizing a with
 | nil=>intro n _ h;exact h
 | cons m ms ih =>
  intro n hl h
  rcases h with ⟨h1,h2⟩ | ⟨k,n',h1,h2,h3,h4,h5⟩
  (· exact .inl ⟨h1,ih (by simp at hl ⊢;omega) h2⟩);(· exact .inr ⟨k+1,n',by rw [h1];congr 1;omega,h2,by simpa using h3,h4,by rw [show j+(k+1)+1=j+1+k+1 from by omega];simpa using h5⟩)
theorem matchFrom_rises (a b:List Int) (j:Nat):Rises a b j (matchFrom a b j) (lcsL a b):=by
 match a,b with
 | [],b=>rw [matchFrom_nil,lcsL_nil_left];exact ⟨rfl,trivial⟩
 | x :: xs,[] =>
  rw [matchFrom_none,lcsL_nil_right];have:=matchFrom_rises xs [] j;(rw [lcsL_nil_right] at this);exact .inl ⟨rfl,this⟩
 | x :: xs,y :: ys =>
  rw [matchFrom_cons,lcsL_cons]
  by_cases e:x=y
  (· subst e;rw [if_pos rfl,if_pos rfl];exact .inr ⟨0,lcsL xs ys,by simp,rfl,by simp,by simp,by simpa using matchFrom_rises xs ys (j+1)⟩)
  ·
   rw [if_neg e,if_neg e]
   by_cases h:lcsL (x :: xs) ys≤lcsL xs (y :: ys)
   (· rw [if_pos h,Nat.max_eq_left h];exact .inl ⟨rfl,matchFrom_rises xs (y :: ys) j⟩);(· rw [if_neg h,Nat.max_eq_right (by omega)];exact rises_shift (matchFrom_length _ _ _) (matchFrom_rises (x :: xs) ys (j+1)))
 termination_by a.length+b.length
theorem addT_self (t:List ByteArray) (s:ByteArray):s ∈ addT t s:=by
 (unfold addT;split);(· (rename_i h;exact (place_mem s).2 h));(· simp)
theorem addT_sub (t:List ByteArray) (s x:ByteArray) (h:x ∈ t):x ∈ addT t s:=by
 (unfold addT;split);(· exact h);(· simp [h])
theorem place_addT {t:List ByteArray} {s x:ByteArray} (h:x ∈ t):place x (addT t s)=place x t:=by
 (unfold addT;split);(· rfl);(· exact place_append x _ ((place_mem x).1 h))
theorem place_addT_self (t:List ByteArray) (s:ByteArray):place s (addT t s)=place s t:=by
 (unfold addT;split);(· rfl);(· (rename_i h;rw [place_new s [] h,place_not h]))
theorem place_inj {t:List ByteArray} {s s':ByteArray} (h:s ∈ t) (e:place s t=place s' t):s=s':=by
 have h1:=(place_mem s).1 h;(have h2:place s' t < t.length:=by omega);have e1:=place_get s h1;have e2:=place_get s' h2;rw [← e1,← e2]
 congr 1
/-- A text's number in a table. -/
def num (t:List ByteArray) (s:ByteArray):Int:=(place s t:Int)
theorem num_inj {t:List ByteArray} {s s':ByteArray} (h:s ∈ t) (e:num t s=num t s'):s=s':=place_inj h (by unfold num at e;omega)
theorem idsOne_spec : ∀ (t l:List ByteArray),(∀ x ∈ t,x ∈ (idsOne t l).1∧place x (idsOne t l).1=place x t)∧(∀ x ∈ l,x ∈ (idsOne t l).1)∧(idsOne t l).2=l.map (num (idsOne t l).1)
 | t,[]=>⟨fun x h=>⟨h,rfl⟩,fun x h=>by simp at h,rfl⟩
 | t,s :: l=>by
  obtain ⟨h1,h2,h3⟩:=idsOne_spec (addT t s) l;have hs:=h1 s (addT_self t s);refine ⟨fun x h=>?_,fun x h=>?_,?_⟩;(· have:=h1 x (addT_sub t s x h);exact ⟨this.1,this.2.trans (place_addT h)⟩)
  ·
   rcases List.mem_cons.1 h with rfl | h
   (· exact hs.1);(· exact h2 x h)
  ·
   simp only [idsOne,List.map_cons];rw [h3]
   congr 1
   unfold num;rw [hs.2,place_addT_self]
theorem tabOf_spec : ∀ (t:List ByteArray) (ls:List (List ByteArray)),(∀ x ∈ t,x ∈ tabOf t ls∧place x (tabOf t ls)=place x t)∧(∀ l ∈ ls,∀ x ∈ l,x ∈ tabOf t ls)∧idsMany t ls=ls.map (fun l=>l.map (num (tabOf t ls)))
 | t,[]=>⟨fun x h=>⟨h,rfl⟩,fun x h=>by simp at h,rfl⟩
 | t,l :: ls=>by
  obtain ⟨h1,h2,h3⟩:=tabOf_spec (idsOne t l).1 ls;obtain ⟨g1,g2,g3⟩:=idsOne_spec t l;refine ⟨fun x h=>?_,fun k hk x h=>?_,?_⟩;(· have:=h1 x (g1 x h).1;exact ⟨this.1,this.2.trans (g1 x h).2⟩)
  ·
   rcases List.mem_cons.1 hk with rfl | hk
   (· exact (h1 x (g2 x h)).1);(· exact h2 k hk x h)
  ·
   simp only [idsMany,tabOf,List.map_cons];rw [h3,g3]
   congr 1
   (refine List.map_congr_left fun x hx=>?_);unfold num;rw [(h1 x (g2 x hx)).2]
/-- The numbers of some files' texts: all by one table. -/
theorem idsAll_map (ls:List (List ByteArray)):idsAll ls=ls.map (fun l=>l.map (num (tabOf [] ls))):=(tabOf_spec [] ls).2.2
theorem tabAll {ls:List (List ByteArray)} {l:List ByteArray} (hl:l ∈ ls) {x:ByteArray} (hx:x ∈ l):x ∈ tabOf [] ls:=(tabOf_spec [] ls).2.1 l hl x hx
theorem lcsL_map {α:Type} (f g:α→Int) (a b:List α) (h : ∀ x ∈ a,∀ y ∈ b,(f x=f y↔g x=g y)):lcsL (a.map f) (b.map f)=lcsL (a.map g) (b.map g):=by
 match a,b with
 | [],b=>simp
 | x :: xs,[]=>simp
 | x :: xs,y :: ys =>
  simp only [List.map_cons];rw [lcsL_cons,lcsL_cons];have h1:=lcsL_map f g xs ys (fun u hu v hv=>h u (by simp [hu]) v (by simp [hv]));have h2:=lcsL_map f g xs (y :: ys) (fun u hu v hv=>h u (by simp [hu]) v hv);have h3:=lcsL_map f g (x :: xs) ys (fun u hu v hv=>h u hu v (by simp [hv]));(simp only [List.map_cons] at h2 h3);rw [h1,h2,h3];have:=h x (by simp) y (by simp)
  by_cases e:f x=f y
  (· rw [if_pos e,if_pos (this.1 e)]);(· rw [if_neg e,if_neg (fun e'=>e (this.2 e'))])
 termination_by a.length+b.length
theorem matchFrom_map {α:Type} (f g:α→Int) (a b:List α) (j:Nat) (h : ∀ x ∈ a,∀ y ∈ b,(f x=f y↔g x=g y)):matchFrom (a.map f) (b.map f) j=matchFrom (a.map g) (b.map g) j:=by
 match a,b with
 | [],b=>simp [matchFrom_nil]
 | x :: xs,[]=>simp [matchFrom_rest]
 | x :: xs,y :: ys =>
  simp only [List.map_cons];rw [matchFrom_cons,matchFrom_cons];have l2:=lcsL_map f g xs (y :: ys) (fun u hu v hv=>h u (by simp [hu]) v hv);have l3:=lcsL_map f g (x :: xs) ys (fun u hu v hv=>h u hu v (by simp [hv]));have h1:=matchFrom_map f g xs ys (j+1) (fun u hu v hv=>h u (by simp [hu]) v (by simp [hv]));have h2:=matchFrom_map f g xs (y :: ys) j (fun u hu v hv=>h u (by simp [hu]) v hv);have h3:=matchFrom_map f g (x :: xs) ys (j+1) (fun u hu v hv=>h u hu v (by simp [hv]));(simp only [List.map_cons] at h2 h3 l2 l3);rw [h1,h2,h3,l2,l3];have:=h x (by simp) y (by simp)
  by_cases e:f x=f y
  (· rw [if_pos e,if_pos (this.1 e)]);(· rw [if_neg e,if_neg (fun e'=>e (this.2 e'))])
 termination_by a.length+b.length
/-- How two lists of texts are paired. -/
def matchS (a b:List ByteArray):List Int:=matchOf (a.map (num (a ++ b))) (b.map (num (a ++ b)))
def lcsS (a b:List ByteArray):Nat:=lcsL (a.map (num (a ++ b))) (b.map (num (a ++ b)))
theorem num_iff {t:List ByteArray} {x y:ByteArray} (h:x ∈ t):num t x=num t y↔x=y:=⟨fun e=>num_inj h e,fun e=>by rw [e]⟩
theorem matchS_num {t:List ByteArray} {a b:List ByteArray} (h : ∀ x ∈ a,x ∈ t):matchOf (a.map (num t)) (b.map (num t))=matchS a b :=
  matchFrom_map _ _ a b 0 fun x hx y hy=>(num_iff (h x hx)).trans (num_iff (by simp [hx])).symm
theorem matchS_length (a b:List ByteArray):(matchS a b).length=a.length:=by rw [matchS,matchOf,matchFrom_length,List.length_map]
/-- Each place is told -1, or a place of the list that holds the same; they rise, from lo on. -/
def Fits (list:List ByteArray):List Int→List ByteArray→Nat→Prop
  | [],[],lo=>lo≤list.length
  | m :: ms,s :: ss,lo=>(m = -1∧Fits list ms ss lo)∨(∃ k:Nat,m=(k:Int)∧lo≤k∧list[k]? = some s∧Fits list ms ss (k+1))
  | _,_,_=>False
theorem Fits.len {list:List ByteArray} : ∀ {ms:List Int} {ss:List ByteArray} {lo:Nat},Fits list ms ss lo→ms.length=ss.length
 | [],[],lo,h=>rfl
 | [],_ :: _,lo,h=>h.elim
 | _ :: _,[],lo,h=>h.elim
 | m :: ms,s :: ss,lo,h=>by
  rcases h with ⟨_,h⟩ | ⟨k,_,_,_,h⟩ <;> simp [Fits.len h]
theorem Fits.le {list:List ByteArray} : ∀ {ms:List Int} {ss:List ByteArray} {lo:Nat},Fits list ms ss lo→lo≤list.length
 | [],[],lo,h=>h
 | [],_ :: _,lo,h=>h.elim
 | _ :: _,[],lo,h=>h.elim
 | m :: ms,s :: ss,lo,h=>by
  rcases h with ⟨_,h⟩ | ⟨k,_,h1,_,h⟩
  (· exact Fits.le h);(· (have:=Fits.le h;omega))
theorem fits_of_rises {f:ByteArray→Int} {list:List ByteArray} : ∀ {ms:List Int} {a b:List ByteArray} {j n:Nat},list.drop j=b→j≤list.length→ms.length=a.length→(∀ x ∈ a,∀ y ∈ b,f x=f y→x=y)→Rises (a.map f) (b.map f) j ms n→Fits list ms a j
 | [],[],b,j,n,hb,hj,hl,hf,h=>hj
 | [],_ :: _,b,j,n,hb,hj,hl,hf,h=>by simp at hl
 | _ :: _,[],b,j,n,hb,hj,hl,hf,h=>by simp at hl
 | m :: ms,x :: a,b,j,n,hb,hj,hl,hf,h=>by
  (have hl':ms.length=a.length:=by simpa using hl)
  rcases h with ⟨h1,h2⟩ | ⟨k,n',h1,h2,h3,h4,h5⟩
  (· exact .inl ⟨h1,fits_of_rises hb hj hl' (fun u hu=>hf u (by simp [hu])) h2⟩)
  ·
   (simp only [List.map_cons,List.head?_cons,List.getElem?_map,Option.map_eq_some_iff] at h3);obtain ⟨y,hy,e⟩:=h3;have hym:y ∈ b:=List.mem_of_getElem? hy;have:=hf x (by simp) y hym e.symm;subst this;(rw [← hb,List.getElem?_drop] at hy);have hlt:=(List.getElem?_eq_some_iff.1 hy).1;refine .inr ⟨j+k,h1,by omega,hy,fits_of_rises (b:=b.drop (k+1)) (n:=n') ?_ (by omega) hl' (fun u hu v hv=>hf u (by simp [hu]) v (List.mem_of_mem_drop hv)) ?_⟩;(· (rw [← hb,List.drop_drop];rfl));(· (rw [List.map_drop];exact h5))
theorem matchS_fits (a b:List ByteArray):Fits b (matchS a b) a 0 :=
  fits_of_rises (f:=num (a ++ b)) (n:=lcsS a b) (List.drop_zero ..) (Nat.zero_le _) (matchS_length a b) (fun x hx y _ e=>num_inj (by simp [hx]) e) (matchFrom_rises _ _ 0)
end Go.Proofs.YtbbhdbeaikclcaaGreat.X
namespace Go.Proofs.YtbbhdbeaikclcaaGreat.X
open Go.RowKit Go.Proofs.YtbbhdbeaikclcaaGreatW.PrintWords Go.Proofs.YtbbhdbeaikclcaaGreatW.PrintLast Go.Proofs.YtbbhdbeaikclcaaGreatW.PrintMore
section
variable {α β:Type} {f g:Nat→Option α} {c:Nat→Option β} {r r':α} {t:β}
/-- With rounds enough it tells r. -/
def Gives (f:Nat→Option α) (r:α):Prop := ∃ K,∀ k,K≤k→f k=some r
theorem Gives.pure (h : ∀ k,f k=some r):Gives f r:=⟨0,fun k _=>h k⟩
theorem Gives.of (h : ∀ k,f (k+1)=some r):Gives f r:=⟨1,fun k hk=>by obtain ⟨j,rfl⟩ : ∃ j,k=j+1:=⟨k - 1,by omega⟩;exact h j⟩
theorem Gives.step (hg:Gives g r) (h : ∀ k,f (k+1)=g k):Gives f r:=by
 obtain ⟨K,hK⟩:=hg;exact ⟨K+1,fun k hk=>by obtain ⟨j,rfl⟩ : ∃ j,k=j+1:=⟨k - 1,by omega⟩;rw [h j];exact hK j (by omega)⟩
theorem Gives.same (hg:Gives g r) (h : ∀ k,f k=g k):Gives f r:=by
 obtain ⟨K,hK⟩:=hg;exact ⟨K,fun k hk=>by rw [h k];exact hK k hk⟩
theorem Gives.call (hc:Gives c t) (hg:Gives g r) (h : ∀ k,c k=some t→f (k+1)=g k):Gives f r:=by
 obtain ⟨K,hK⟩:=hg;obtain ⟨C,hC⟩:=hc;exact ⟨K+C+1,fun k hk=>by obtain ⟨j,rfl⟩ : ∃ j,k=j+1:=⟨k - 1,by omega⟩;rw [h j (hC j (by omega))];exact hK j (by omega)⟩
theorem Gives.call0 (hc:Gives c t) (hg:Gives g r) (h : ∀ k,c k=some t→f k=g k):Gives f r:=by
 obtain ⟨K,hK⟩:=hg;obtain ⟨C,hC⟩:=hc;exact ⟨K+C,fun k hk=>by rw [h k (hC k (by omega))];exact hK k (by omega)⟩
theorem Gives.last (hc:Gives c t) (h : ∀ k,c k=some t→f (k+1)=some r):Gives f r:=by
 obtain ⟨C,hC⟩:=hc;exact ⟨C+1,fun k hk=>by obtain ⟨j,rfl⟩ : ∃ j,k=j+1:=⟨k - 1,by omega⟩;exact h j (hC j (by omega))⟩
theorem Gives.last0 (hc:Gives c t) (h : ∀ k,c k=some t→f k=some r):Gives f r:=by
 obtain ⟨C,hC⟩:=hc;exact ⟨C,fun k hk=>h k (hC k hk)⟩
theorem Gives.eq (h:Gives f r) (e:r=r'):Gives f r':=e ▸ h
end
theorem gw {x:Int} (h : -9223372036854775808≤x) (h2:x < 9223372036854775808):wrap64 x=x:=by
 unfold wrap64;omega
theorem gw1 {i:Nat} (h:i < 4611686018427387904):wrap64 ((i:Int)+1)=((i+1:Nat):Int):=by
 (rw [gw (by omega) (by omega)];omega)
theorem getN {α:Type} {d:α} {L:List α} {i:Nat} (h:i < L.length):L.getD (i:Int).toNat d=L[i]:=by
 simp [h]
theorem rdOfN {α:Type} {d:α} {L:List α} {i:Nat} (h:i < L.length):rdOf d L (i:Int)=L[i]:=by
 simp [rdOf,h]
theorem rdN {L:List Int} {i:Nat} (h:i < L.length):rd L (i:Int)=L[i]:=by
 simp [rd,h]
theorem btN {s:ByteArray} {i:Nat} (h:i < s.size):bt s (i:Int)=((s.data.toList[i]'(by simpa using h)).toNat:Int):=by
 (simp [bt,h];rfl)
theorem strEq {a b:ByteArray}:a.toList=b.toList↔a=b:=by
 constructor;(· intro h;(rw [Lib.toList_data,Lib.toList_data] at h);exact ByteArray.ext (Array.toList_inj.1 h));(· (rintro rfl;rfl))
theorem strBeq {a b:ByteArray}:(a.toList == b.toList)=decide (a=b):=by
 by_cases h:a=b
 (· (subst h;simp));(· rw [decide_eq_false h,beq_eq_false_iff_ne];(exact fun e=>h (strEq.1 e)))
theorem sizeLen (s:ByteArray):s.size=s.data.toList.length:=by simp
theorem dropCons {α:Type} {l:List α} {i:Nat} (h:i < l.length):l.drop i=l[i] :: l.drop (i+1):=List.drop_eq_getElem_cons h
set_option maxRecDepth 100000 in
set_option maxHeartbeats 2000000 in
theorem grow_strs (w0 w:World) (n:Nat) (hn:n≤1000000) (hw:Below w0.heap.size w0 w) :
    Calls Tryz.prog 117 #[.slice none 0 0, .int .i64 (n:Int)] w fun e w' => ∃ v,e = .returned v∧Aside0 (Kd.string.R 9 w' w.heap.size (fun _=>True) v [])∧Aside0 (Below w.heap.size w w'):=by
 by_cases h0:n=0
 (· subst h0;go_enter Tryz.func117,Tryz.ntmps117;go_wp2;go_ret;exact ⟨_,rfl,⟨Kd.R_nil _ _ _ _ _⟩,⟨Below.refl _ _⟩⟩)
 ·
  have d0:decide ((n:Int) < 0)=false:=decide_eq_false (by omega);have d1:decide (0 < (n:Int))=true:=decide_eq_true (by omega);have d2:decide (0 < n)=true:=decide_eq_true (by omega);go_enter Tryz.func117,Tryz.ntmps117
  go_wp2_with (first
   | (at_builtin;refine Kd.R_append_zeros Kd.string (w0:=w) w.heap.size rfl (.tmp 20) (.tmp 21) 22 3 9 (.string ⟨#[]⟩) 16 rfl Tryz.underlying22 Tryz.underlying3 info9 rfl (by decide) (by decide) (.slice none 0 0) [] ByteArray.empty (kx := .i64) (n:Int) (fun _=>True) rfl rfl rfl (fun _ _=>trivial) (Kd.R_nil _ _ _ _ _) (by omega) (Below.refl _ _) (Nat.le_refl _) (by simp;omega) ?_;intro v1 w1 ho1 hb1 hg1 hat1;obtain ⟨A1,c1,hv1⟩:=Kd.R_slice ho1;subst hv1;have HO1:=Aside0.mk (Kd.R_take ho1 (Nat.zero_le _));have HB1:=Aside0.mk hb1;have hlen:([] ++ List.replicate (n:Int).toNat ByteArray.empty).length=n:=(by simp);rw [hlen];clear ho1 hb1 hg1 hat1 hlen))
  go_ret;exact ⟨_,rfl,⟨by simpa using HO1.out⟩,HB1⟩
set_option maxRecDepth 100000 in
set_option maxHeartbeats 4000000 in
theorem concat_strs (A:Option Addr) (c:Nat) (L:List (List ByteArray)) (w:World) (hC:Kd.C (Kd.slice 9 Kd.string) w A L.length L) (hc:L.length≤c) (hL:L.length≤1000) (hl:L.flatten.length≤1000000) :
    Calls Tryz.prog 105 #[.slice A L.length c] w fun e w' => ∃ v,e = .returned v∧Aside0 (Kd.string.R 9 w' w.heap.size (fun _=>True) v L.flatten)∧Aside0 (Below w.heap.size w w'):=by
 have HC:=Aside0.mk hC;have HL:=Aside0.mk hl
 have hsum : ∀ k,((L.take k).map List.length).sum≤L.flatten.length:=fun k=>by
  have e:L.flatten.length=((L.take k).map List.length).sum+((L.drop k).map List.length).sum:=by
   rw [List.length_flatten,← List.sum_append,← List.map_append,List.take_append_drop]
  omega
 have HSUM:=Aside0.mk hsum;clear hC hl hsum;go_enter Tryz.func105,Tryz.ntmps105;(go_wp2_with fail)
 go_loop [3,5,11] (fun s _ i => ∃ (k:Nat),k≤L.length∧i = .int .i64 k∧s = .int .i64 (((L.take k).map List.length).sum:Nat)) (fun _ _ i=>L.length - (intOf i).toNat)
 (case atStart=>exact ⟨0,Nat.zero_le _,rfl,rfl⟩)
 case round =>
  obtain ⟨k,hk,rfl,rfl⟩:=hrel;obtain ⟨s,hs⟩ : ∃ s,((L.take k).map List.length).sum=s:=⟨_,rfl⟩;(have hsb:s≤1000000:=by have:=HSUM.out k;have:=HL.out;omega);rw [hs];have HS:=Aside0.mk hs;clear hs
  by_cases hlt:k < L.length
  ·
   obtain ⟨ad,A5,c5,rfl,hrow,hc5,hC5⟩:=at_slice HC.out k hlt;obtain ⟨l,hle⟩ : ∃ l,L.getD k []=l:=⟨_,rfl⟩;(have htk:L.take (k+1)=L.take k ++ [l]:=by rw [← hle,getD_get hlt,List.take_append_getElem hlt]);(rw [hle] at hrow)
   have hs2:((L.take (k+1)).map List.length).sum=s+l.length:=by
    (rw [htk,List.map_append,List.sum_append,HS.out];simp)
   (have hb2:s+l.length≤1000000:=by have:=HSUM.out (k+1);have:=HL.out;omega);have HS2:=Aside0.mk hs2;obtain ⟨n,hn⟩ : ∃ n,l.length=n:=⟨_,rfl⟩;(rw [hn] at hrow hb2 HS2);have d0:decide ((s:Int)+(n:Int) < 0)=false:=decide_eq_false (by omega);clear hle htk hs2 hC5 hn;go_wp2;go_round;(case measure=>simp [intOf];omega);(case rel=>exact ⟨k+1,by omega,by go_num,by rw [HS2.out];go_num⟩)
  ·
   (have hk':k=L.length:=by omega);subst hk';(rw [List.take_length,← List.length_flatten] at HS);have hs':=HS.out;subst hs';clear HS;obtain ⟨n,hn⟩ : ∃ n,L.flatten.length=n:=⟨_,rfl⟩;(rw [hn] at hsb HL ⊢);have HN:=Aside0.mk hn;clear hn;(go_wp2_with fail);refine (grow_strs w _ n hsb (Below.refl _ _)).mono ?_;rintro e w1 ⟨v1,rfl,HR1,HB1⟩;obtain ⟨A1,c1,rfl⟩:=Kd.R_slice HR1.out;(go_wp2_with fail)
   go_loopw [6,8,27] (fun v0 _ i wr => ∃ (k:Nat) (Ao:Option Addr) (co m:Nat),v0 = .slice Ao m co∧k≤L.length∧i = .int .i64 k∧Aside0 (Kd.string.R 9 wr w.heap.size (fun _=>True) (.slice Ao m co) (L.take k).flatten)∧Aside0 (Below w.heap.size w wr)) (fun _ _ i _=>L.length - (intOf i).toNat)
   (case atStart=>exact ⟨0,_,_,_,rfl,Nat.zero_le _,rfl,HR1,HB1⟩)
   case round =>
    obtain ⟨k,Ao,co,m,rfl,hk,rfl,HR,HB⟩:=hrel
    by_cases hlt:k < L.length
    ·
     obtain ⟨ad,A5,c5,rfl,hrow,hc5,hC5⟩:=at_slice HC.out k hlt;obtain ⟨l,hle⟩ : ∃ l,L.getD k []=l:=⟨_,rfl⟩;(have htk:(L.take (k+1)).flatten=(L.take k).flatten ++ l:=by rw [← hle,getD_get hlt,← List.take_append_getElem hlt,List.flatten_append];simp);have HTK:=Aside0.mk htk;(rw [hle] at hrow hC5);replace hrow:=(HB.out.cell (World.block_lt_of_cell? w _ hrow)).trans hrow;have HC5:Aside0 (Kd.string.C wr A5 l.length l):=⟨Kd.C_below hC5 HB.out⟩
     have hlim:(L.take k).flatten.length+l.length≤1000000:=by
      have h1:=HSUM.out (k+1);have h2:=HL.out;have h3:=congrArg List.length htk;(rw [List.length_append,List.length_flatten] at h3);(rw [HN.out] at h1);omega
     have HLIM:=Aside0.mk hlim;clear hle htk hC5 hlim
     go_wp2_with (first
      | (at_builtin;refine Kd.R_append_rows Kd.string (Rr:=Kd.string.K wr) (w0:=w) w.heap.size rfl (.tmp 31) (.tmp 32) 22 9 (.string ⟨#[]⟩) 16 rfl Tryz.underlying22 info9 rfl (by decide) (by decide) (.slice Ao m co) (L.take k).flatten l A5 l.length c5 (fun _=>True) (fun _=>False) rfl rfl HR.out HC5.out (fun _ _ h=>h) (fun _ h=>h.elim) (fun _ _=>trivial) HB.out HB.out.size (by have:=HLIM.out;omega) ?_;intro v2 w2 ho2 hb2 hg2 hat2;obtain ⟨A2,c2,hv2⟩:=Kd.R_slice ho2;subst hv2;generalize ((L.take k).flatten ++ l).length=m2 at ho2 ⊢;have HO2:=Aside0.mk ho2;have HB2:=Aside0.mk hb2;clear ho2 hb2 hg2 hat2))
     go_roundw;(case measure=>simp [intOf];omega);(case rel=>exact ⟨k+1,_,_,_,rfl,by omega,by go_num,by rw [HTK.out];exact HO2,HB2⟩)
    (· (have hk':k=L.length:=by omega);subst hk';(rw [List.take_length] at HR);go_wp2;go_ret;exact ⟨_,rfl,HR,HB⟩)
abbrev KS:Kd (List ByteArray):=Kd.slice 9 Kd.string
set_option maxRecDepth 100000 in
set_option maxHeartbeats 2000000 in
theorem grow_lists (w0 w:World) (n:Nat) (hn:n≤1000000) (hw:Below w0.heap.size w0 w) :
    Calls Tryz.prog 61 #[.slice none 0 0, .int .i64 (n:Int)] w fun e w' => ∃ v,e = .returned v∧Aside0 ((heldK w0 KS).R 22 w' w.heap.size (fun _=>True) v [])∧Aside0 (Below w.heap.size w w'):=by
 by_cases h0:n=0
 (· subst h0;go_enter Tryz.func61,Tryz.ntmps61;go_wp2;go_ret;exact ⟨_,rfl,⟨Kd.R_nil _ _ _ _ _⟩,⟨Below.refl _ _⟩⟩)
 ·
  have d0:decide ((n:Int) < 0)=false:=decide_eq_false (by omega);have d1:decide (0 < (n:Int))=true:=decide_eq_true (by omega);have d2:decide (0 < n)=true:=decide_eq_true (by omega);go_enter Tryz.func61,Tryz.ntmps61
  go_wp2_with (first
   | (at_builtin;refine Kd.R_append_zeros (heldK w0 KS) (w0:=w) w.heap.size rfl (.tmp 20) (.tmp 21) 23 3 22 (.slice none 0 0) 24 rfl Tryz.underlying23 Tryz.underlying3 info22 rfl Nat.zero_lt_one (by decide) (.slice none 0 0) [] [] (kx := .i64) (n:Int) (fun _=>True) rfl rfl (strs_nil _) (fun _ _=>trivial) (Kd.R_nil _ _ _ _ _) (by omega) (Below.refl _ _) (Nat.le_refl _) (by simp;omega) ?_;intro v1 w1 ho1 hb1 hg1 hat1;obtain ⟨A1,c1,hv1⟩:=Kd.R_slice ho1;subst hv1;have HO1:=Aside0.mk (Kd.R_take ho1 (Nat.zero_le _));have HB1:=Aside0.mk hb1;have hlen:([] ++ List.replicate (n:Int).toNat ([]:List ByteArray)).length=n:=(by simp);rw [hlen];clear ho1 hb1 hg1 hat1 hlen))
  go_ret;exact ⟨_,rfl,⟨by simpa using HO1.out⟩,HB1⟩
set_option maxRecDepth 100000 in
set_option maxHeartbeats 4000000 in
theorem concat_lists (A:Option Addr) (c:Nat) (L:List (List (List ByteArray))) (w:World) (hC:Kd.C (Kd.slice 22 KS) w A L.length L) (hc:L.length≤c) (hL:L.length≤1000) (hl:L.flatten.length≤1000000) :
    Calls Tryz.prog 33 #[.slice A L.length c] w fun e w' => ∃ v,e = .returned v∧Aside0 ((heldK w KS).R 22 w' w.heap.size (fun _=>True) v L.flatten)∧Aside0 (Below w.heap.size w w'):=by
 have HC:=Aside0.mk hC;have HL:=Aside0.mk hl
 have hsum : ∀ k,((L.take k).map List.length).sum≤L.flatten.length:=fun k=>by
  have e:L.flatten.length=((L.take k).map List.length).sum+((L.drop k).map List.length).sum:=by
   rw [List.length_flatten,← List.sum_append,← List.map_append,List.take_append_drop]
  omega
 have HSUM:=Aside0.mk hsum;clear hC hl hsum;go_enter Tryz.func33,Tryz.ntmps33;(go_wp2_with fail)
 go_loop [3,5,11] (fun s _ i => ∃ (k:Nat),k≤L.length∧i = .int .i64 k∧s = .int .i64 (((L.take k).map List.length).sum:Nat)) (fun _ _ i=>L.length - (intOf i).toNat)
 (case atStart=>exact ⟨0,Nat.zero_le _,rfl,rfl⟩)
 case round =>
  obtain ⟨k,hk,rfl,rfl⟩:=hrel;obtain ⟨s,hs⟩ : ∃ s,((L.take k).map List.length).sum=s:=⟨_,rfl⟩;(have hsb:s≤1000000:=by have:=HSUM.out k;have:=HL.out;omega);rw [hs];have HS:=Aside0.mk hs;clear hs
  by_cases hlt:k < L.length
  ·
   obtain ⟨ad,A5,c5,rfl,hrow,hc5,hC5⟩:=at_slice HC.out k hlt;obtain ⟨l,hle⟩ : ∃ l,L.getD k []=l:=⟨_,rfl⟩;(have htk:L.take (k+1)=L.take k ++ [l]:=by rw [← hle,getD_get hlt,List.take_append_getElem hlt]);(rw [hle] at hrow)
   have hs2:((L.take (k+1)).map List.length).sum=s+l.length:=by
    (rw [htk,List.map_append,List.sum_append,HS.out];simp)
   (have hb2:s+l.length≤1000000:=by have:=HSUM.out (k+1);have:=HL.out;omega);have HS2:=Aside0.mk hs2;obtain ⟨n,hn⟩ : ∃ n,l.length=n:=⟨_,rfl⟩;(rw [hn] at hrow hb2 HS2);have d0:decide ((s:Int)+(n:Int) < 0)=false:=decide_eq_false (by omega);clear hle htk hs2 hC5 hn;go_wp2;go_round;(case measure=>simp [intOf];omega);(case rel=>exact ⟨k+1,by omega,by go_num,by rw [HS2.out];go_num⟩)
  ·
   (have hk':k=L.length:=by omega);subst hk';(rw [List.take_length,← List.length_flatten] at HS);have hs':=HS.out;subst hs';clear HS;obtain ⟨n,hn⟩ : ∃ n,L.flatten.length=n:=⟨_,rfl⟩;(rw [hn] at hsb HL ⊢);have HN:=Aside0.mk hn;clear hn;(go_wp2_with fail);refine (grow_lists w _ n hsb (Below.refl _ _)).mono ?_;rintro e w1 ⟨v1,rfl,HR1,HB1⟩;obtain ⟨A1,c1,rfl⟩:=Kd.R_slice HR1.out;(go_wp2_with fail)
   go_loopw [6,8,27] (fun v0 _ i wr => ∃ (k:Nat) (Ao:Option Addr) (co m:Nat),v0 = .slice Ao m co∧k≤L.length∧i = .int .i64 k∧Aside0 ((heldK w KS).R 22 wr w.heap.size (fun _=>True) (.slice Ao m co) (L.take k).flatten)∧Aside0 (Below w.heap.size w wr)) (fun _ _ i _=>L.length - (intOf i).toNat)
   (case atStart=>exact ⟨0,_,_,_,rfl,Nat.zero_le _,rfl,HR1,HB1⟩)
   case round =>
    obtain ⟨k,Ao,co,m,rfl,hk,rfl,HR,HB⟩:=hrel
    by_cases hlt:k < L.length
    ·
     obtain ⟨ad,A5,c5,rfl,hrow,hc5,hC5⟩:=at_slice HC.out k hlt;obtain ⟨l,hle⟩ : ∃ l,L.getD k []=l:=⟨_,rfl⟩;(have htk:(L.take (k+1)).flatten=(L.take k).flatten ++ l:=by rw [← hle,getD_get hlt,← List.take_append_getElem hlt,List.flatten_append];simp);have HTK:=Aside0.mk htk;(rw [hle] at hrow hC5);replace hrow:=(HB.out.cell (World.block_lt_of_cell? w _ hrow)).trans hrow;have HC5:Aside0 ((heldK w KS).C wr A5 l.length l):=⟨held_C hC5 HB.out⟩
     have hlim:(L.take k).flatten.length+l.length≤1000000:=by
      have h1:=HSUM.out (k+1);have h2:=HL.out;have h3:=congrArg List.length htk;(rw [List.length_append,List.length_flatten] at h3);(rw [HN.out] at h1);omega
     have HLIM:=Aside0.mk hlim;clear hle htk hC5 hlim
     go_wp2_with (first
      | (at_builtin;refine Kd.R_append_rows (heldK w KS) (Rr:=(heldK w KS).K wr) (w0:=w) w.heap.size rfl (.tmp 31) (.tmp 32) 23 22 (.slice none 0 0) 24 rfl Tryz.underlying23 info22 rfl Nat.zero_lt_one (by decide) (.slice Ao m co) (L.take k).flatten l A5 l.length c5 (fun _=>True) (fun _=>False) rfl rfl HR.out HC5.out (fun _ _ h=>h) (fun _ h=>h.elim) (fun _ _=>trivial) HB.out HB.out.size (by have:=HLIM.out;omega) ?_;intro v2 w2 ho2 hb2 hg2 hat2;obtain ⟨A2,c2,hv2⟩:=Kd.R_slice ho2;subst hv2;generalize ((L.take k).flatten ++ l).length=m2 at ho2 ⊢;have HO2:=Aside0.mk ho2;have HB2:=Aside0.mk hb2;clear ho2 hb2 hg2 hat2))
     go_roundw;(case measure=>simp [intOf];omega);(case rel=>exact ⟨k+1,_,_,_,rfl,by omega,by go_num,by rw [HTK.out];exact HO2,HB2⟩)
    (· (have hk':k=L.length:=by omega);subst hk';(rw [List.take_length] at HR);go_wp2;go_ret;exact ⟨_,rfl,HR,HB⟩)
theorem ref_id_l0 (t:List ByteArray) (s:ByteArray) (ht:t.length≤1000000) : ∀ (r i:Nat),i+r=t.length→Gives (fun k=>sennitref02_Id.l0 k t s (i:Int)) (if place s (t.drop i) < (t.drop i).length then t else t ++ [s],((i+place s (t.drop i):Nat):Int))
 | 0,i,hi=>Gives.of fun k=>by
  show sennitref02_Id.l0 (k+1) t s (i:Int)=_;rw [sennitref02_Id.l0,if_neg (by omega),List.drop_of_length_le (by omega)];simp only [Option.bind_some,List.nil_append,List.length_nil,Nat.zero_add];rw [if_pos (by omega),if_pos (by omega),if_neg (by simp [place])];(simp [place];omega)
 | r+1,i,hi=>by
  have ha:=dropCons (l:=t) (i:=i) (by omega)
  by_cases e:t[i]=s
  (· (refine Gives.of fun k=>?_);show sennitref02_Id.l0 (k+1) t s (i:Int)=_;rw [sennitref02_Id.l0,if_pos (by omega),if_pos (by omega),rdOfN (by omega),if_pos (strEq.2 e),ha];simp [place,e])
  ·
   (refine ((ref_id_l0 t s ht r (i+1) (by omega)).eq ?_).step fun k=>?_)
   ·
    (rw [ha];simp only [place,if_neg e,List.length_cons])
    congr 1
    ·
     by_cases h:place s (t.drop (i+1)) < (t.drop (i+1)).length
     (· rw [if_pos h,if_pos (by omega)]);(· rw [if_neg h,if_neg (by omega)])
    (· omega)
   (· show sennitref02_Id.l0 (k+1) t s (i:Int)=_;rw [sennitref02_Id.l0,if_pos (by omega),if_pos (by omega),rdOfN (by omega),if_neg (fun h=>e (strEq.1 h)),gw1 (by omega)])
theorem ref_id (t:List ByteArray) (s:ByteArray) (ht:t.length≤1000000):Gives (fun k=>sennitref02_Id.f k t s) (addT t s,((place s t:Nat):Int)):=by
 (refine ((ref_id_l0 t s ht t.length 0 (by omega)).eq ?_).same fun k=>rfl);simp [addT]
theorem ref_all_l1 (files:List (List ByteArray)) (i:Nat) (hi:i < files.length) (hf:files.length≤1000) (hl:files[i].length≤100000) (out:List (List Int)) (ho:out.length≤1000) (R:List (List Int)) (T:List ByteArray) (ht:(idsOne T files[i]).1.length≤1000000)
    (hR:Gives (fun k=>sennitref02_All.l0 k files (out ++ [(idsOne T files[i]).2]) (idsOne T files[i]).1 ((i+1:Nat):Int)) R) :
    ∀ (r j:Nat),j+r=files[i].length→Gives (fun k=>sennitref02_All.l1 k files out (idsOne T (files[i].take j)).1 (i:Int) (idsOne T (files[i].take j)).2 (j:Int)) R
  | 0,j,hj=>hR.step fun k=>by
    show sennitref02_All.l1 (k+1) files out _ (i:Int) _ (j:Int)=_
    have e:rd_L1 files (i:Int)=files[i]:=getN hi
    rw [sennitref02_All.l1,if_pos (by omega),if_pos (by omega),e,if_neg (by omega),if_pos (by omega),gw1 (by omega),List.take_of_length_le (by omega)]
  | r+1,j,hj=>by
    have e:rd_L1 files (i:Int)=files[i]:=getN hi
    have hjl:j < files[i].length:=by omega
    have tk:files[i].take (j+1)=files[i].take j ++ [files[i][j]]:=(List.take_append_getElem hjl).symm
    have ih:=ref_all_l1 files i hi hf hl out ho R T ht hR r (j+1) (by omega)
    rw [tk,idsOne_snoc] at ih
    have hle:(idsOne T (files[i].take j)).1.length≤1000000:=by
      have : ∀ (t l k:List ByteArray),(idsOne t l).1.length≤(idsOne t (l ++ k)).1.length:=by
        intro t l
        induction l generalizing t with
        | nil =>
          intro k
          induction k generalizing t with
          | nil=>exact Nat.le_refl _
          | cons s k ih=>exact Nat.le_trans (addT_length t s).1 (ih (addT t s))
        | cons s l ih=>intro k;exact ih (addT t s) k
      have h2:=this T (files[i].take j) (files[i].drop j)
      rw [List.take_append_drop] at h2
      omega
    refine Gives.call (ref_id _ files[i][j] hle) ih fun k hk=>?_
    show sennitref02_All.l1 (k+1) files out _ (i:Int) _ (j:Int)=_
    have hs:(idsOne T (files[i].take j)).2.length=j:=by rw [idsOne_length,List.length_take];omega
    rw [sennitref02_All.l1,if_pos (by omega),if_pos (by omega),e,if_pos (by omega),if_pos (by omega),rdOfN hjl,hk,Option.bind_some,if_pos (by omega),gw1 (by omega)]
theorem ref_all_l0 (files:List (List ByteArray)) (hf:files.length≤1000) (hl : ∀ l ∈ files,l.length≤100000) (ht:(files.map List.length).sum≤1000000) :
    ∀ (r i:Nat),i+r=files.length→Gives (fun k=>sennitref02_All.l0 k files (idsMany [] (files.take i)) (tabOf [] (files.take i)) (i:Int)) (idsMany [] files)
  | 0,i,hi=>Gives.of fun k=>by
    show sennitref02_All.l0 (k+1) files _ _ (i:Int)=_
    rw [sennitref02_All.l0,if_neg (by omega),List.take_of_length_le (by omega)]
  | r+1,i,hi=>by
    have hil:i < files.length:=by omega
    have tk:files.take (i+1)=files.take i ++ [files[i]]:=(List.take_append_getElem hil).symm
    have ih:=ref_all_l0 files hf hl ht r (i+1) (by omega)
    rw [tk,idsMany_snoc,tabOf_snoc] at ih
    have hsum:(idsOne (tabOf [] (files.take i)) files[i]).1.length≤1000000:=by
      have h1:=idsOne_table_le (tabOf [] (files.take i)) files[i]
      have h2 : ∀ (t:List ByteArray) (ls:List (List ByteArray)),(tabOf t ls).length≤t.length+(ls.map List.length).sum:=by
        intro t ls
        induction ls generalizing t with
        | nil=>simp [tabOf]
        | cons l ls ih=>have a:=ih (idsOne t l).1;have b:=idsOne_table_le t l;simp only [tabOf,List.map_cons,List.sum_cons];omega
      have h3:=h2 [] (files.take i)
      have h4:((files.take i).map List.length).sum+files[i].length≤(files.map List.length).sum:=by
        have e:files=files.take i ++ files[i] :: files.drop (i+1):=by rw [← dropCons hil,List.take_append_drop]
        have:=congrArg (fun l=>(l.map List.length).sum) e
        simp only [List.map_append,List.sum_append,List.map_cons,List.sum_cons] at this
        omega
      simp only [List.length_nil] at h3
      omega
    have:=ref_all_l1 files i hil hf (hl _ (List.getElem_mem _)) (idsMany [] (files.take i)) (by rw [idsMany_length,List.length_take];omega) _ _ hsum ih files[i].length 0 (by omega)
    refine this.step fun k=>?_
    show sennitref02_All.l0 (k+1) files _ _ (i:Int)=_
    rw [sennitref02_All.l0,if_pos (by omega)]
    rfl
theorem ref_all (files:List (List ByteArray)) (hf:files.length≤1000) (hl : ∀ l ∈ files,l.length≤100000) (ht:(files.map List.length).sum≤1000000):Gives (fun k=>sennitref02_All.f k files) (idsAll files) :=
  (ref_all_l0 files hf hl ht files.length 0 (by omega)).same fun k=>rfl
abbrev KSs:Kd (List ByteArray):=Kd.slice 9 Kd.string
theorem equal_l0 (a b:List ByteArray) (hl:a.length=b.length) (hm:a.length≤1000000000000) : ∀ (r i:Nat),i+r=a.length→Gives (fun k=>slices_Equal_string_string.l0 k a b (a.length:Int) (i:Int)) (decide (a.drop i=b.drop i))
 | 0,i,hi=>Gives.of fun k=>by
  rw [slices_Equal_string_string.l0,if_neg (by omega)];have e1:a.drop i=[]:=List.drop_eq_nil_of_le (by omega);have e2:b.drop i=[]:=List.drop_eq_nil_of_le (by omega);(rw [e1,e2];rfl)
 | r+1,i,hi=>by
  (have ha:i < a.length:=by omega);(have hb:i < b.length:=by omega);have ih:=equal_l0 a b hl hm r (i+1) (by omega);rw [dropCons ha,dropCons hb]
  by_cases e:a[i]=b[i]
  (· rw [e];have e2:decide (b[i] :: a.drop (i+1)=b[i] :: b.drop (i+1))=decide (a.drop (i+1)=b.drop (i+1)):=decide_eq_decide.2 ⟨fun h=>(List.cons.inj h).2,fun h=>by rw [h]⟩;rw [e2];(refine ih.step fun k=>?_);show slices_Equal_string_string.l0 (k+1) a b _ _=_;rw [slices_Equal_string_string.l0,if_pos (by omega),if_pos (by omega),if_pos (by omega),if_pos (by omega),rdOfN ha,rdOfN hb,if_pos (by rw [e]),gw1 (by omega)]);(· have e2:decide (a[i] :: a.drop (i+1)=b[i] :: b.drop (i+1))=false:=decide_eq_false (fun h=>e (List.cons.inj h).1);rw [e2];(refine Gives.of fun k=>?_);rw [slices_Equal_string_string.l0,if_pos (by omega),if_pos (by omega),if_pos (by omega),if_pos (by omega),rdOfN ha,rdOfN hb,if_neg (fun h=>e (strEq.1 h))])
theorem equal_gives (a b:List ByteArray) (hm:a.length≤1000000000000):Gives (fun k=>slices_Equal_string_string.f k a b) (decide (a=b)):=by
 by_cases hl:a.length=b.length
 (· have h:=equal_l0 a b hl hm a.length 0 (by omega);(refine h.same fun k=>?_);(rw [slices_Equal_string_string.f,if_pos (by rw [hl])];rfl));(· have e:decide (a=b)=false:=decide_eq_false (fun h=>hl (by rw [h]));rw [e];(refine Gives.pure fun k=>?_);rw [slices_Equal_string_string.f,if_neg (by omega)])
theorem slices_equal (a b:List ByteArray) (Aa:Option Addr) (ca:Nat) (Ab:Option Addr) (cb:Nat) (w:World) (ha:Kd.C Kd.string w Aa a.length a) (la:a.length≤ca) (hb:Kd.C Kd.string w Ab b.length b) (lb:b.length≤cb) (hm:a.length≤1000000000000) :
    Calls Tryz.prog 114 #[.slice Aa a.length ca, .slice Ab b.length cb] w fun e w'=>e = .returned (.bool (decide (a=b)))∧Drawn0 w w':=by
 obtain ⟨K,hK⟩:=equal_gives a b hm;exact slices_Equal_string_string.calls K Aa ca a Ab cb b _ w ha la hb lb (hK K (Nat.le_refl _))
/-- Is it the same as the one that is captured? -/
theorem others_1 (g5 g9:Nat) (y z:List ByteArray) (Ay:Option Addr) (cy:Nat) (Az:Option Addr) (cz:Nat) (w:World) (h5:w.cell? ⟨g5,0,none⟩=some (.func (.func 114) #[] #[])) (h9:w.cell? ⟨g9,0,none⟩=some (.slice Ay y.length cy))
    (hy:Kd.C Kd.string w Ay y.length y) (ly:y.length≤cy) (hz:Kd.C Kd.string w Az z.length z) (lz:z.length≤cz) (hm:y.length≤1000000000000) :
    Calls Tryz.prog 126 #[.slice Az z.length cz, .pointer (some ⟨g5,0,none⟩), .pointer (some ⟨g9,0,none⟩)] w fun e w'=>e = .returned (.bool (decide (y=z)))∧Drawn0 w w':=by
 have HY:=Aside0.mk hy;have HZ:=Aside0.mk hz;obtain ⟨q,hq⟩ : ∃ q,decide (y=z)=q:=⟨_,rfl⟩;have HQ:=Aside0.mk hq;clear hy hz;rw [hq];clear hq;go_enter Tryz.func126,Tryz.ntmps126;(go_wp2_with fail);refine (slices_equal y z Ay cy Az cz _ HY.out ly HZ.out lz hm).mono ?_;rintro e w' ⟨rfl,n,rfl⟩;rw [HQ.out];go_wp2;go_ret;exact ⟨rfl,⟨_,rfl⟩⟩
/-- The first place of what is the same; -1: none. -/
def findY (y:List ByteArray) (L:List (List ByteArray)):Int:=match L.findIdx? (fun z=>decide (y=z)) with | some i=>(i:Int) | none => -1
theorem findY_go {y:List ByteArray} {L:List (List ByteArray)} {k:Nat} (hk:k < L.length) (h : ∀ l ∈ L.take k,decide (y=l)=false) (hp:decide (y=L[k])=true):findY y L=(k:Int):=by
 have:L.findIdx? (fun z=>decide (y=z))=some k:=by
  rw [List.findIdx?_eq_some_iff_getElem]
  exact ⟨hk,hp,fun j hj=>by
   have:L[j] ∈ L.take k:=by
    (rw [List.mem_take_iff_getElem];exact ⟨j,by omega,rfl⟩)
   show ¬ decide (y=L[j])=true
   rw [h _ this];decide⟩
 rw [findY,this]
theorem findY_none {y:List ByteArray} {L:List (List ByteArray)} (h : ∀ l ∈ L,decide (y=l)=false):findY y L = -1:=by
 have:L.findIdx? (fun z=>decide (y=z))=none:=List.findIdx?_eq_none_iff.2 (fun x hx=>h x hx);rw [findY,this]
theorem findY_any (y:List ByteArray) (L:List (List ByteArray)):L.any (fun z=>decide (y=z))=decide (0≤findY y L):=by
 rw [findY]
 cases h:L.findIdx? (fun z=>decide (y=z)) with
 | none =>
  have:=List.findIdx?_eq_none_iff.1 h;show _=false;rw [List.any_eq_false];(exact fun x hx=>by rw [this x hx];decide)
 | some i =>
  obtain ⟨hi,h1,_⟩:=List.findIdx?_eq_some_iff_getElem.1 h;have:decide ((0:Int)≤(i:Int))=true:=decide_eq_true (by omega);show _=decide ((0:Int)≤(i:Int));rw [this,List.any_eq_true];exact ⟨_,List.getElem_mem hi,h1⟩
set_option maxRecDepth 100000 in
set_option maxHeartbeats 2000000 in
theorem index_is (g5 g9:Nat) (y:List ByteArray) (Ay:Option Addr) (cy:Nat) (A:Option Addr) (c:Nat) (L:List (List ByteArray)) (w:World) (h5:w.cell? ⟨g5,0,none⟩=some (.func (.func 114) #[] #[])) (h9:w.cell? ⟨g9,0,none⟩=some (.slice Ay y.length cy))
    (hy:Kd.C Kd.string w Ay y.length y) (ly:y.length≤cy) (hm:y.length≤1000000000000) (hC:Kd.C KSs w A L.length L) (hc:L.length≤c) (hL:L.length≤1000000) :
    Calls Tryz.prog 94 #[.slice A L.length c, .func (.func 126) #[] #[.pointer (some ⟨g5,0,none⟩), .pointer (some ⟨g9,0,none⟩)]] w fun e w'=>e = .returned (.int .i64 (findY y L))∧Drawn0 w w':=by
 have HC:=Aside0.mk hC;have HY:=Aside0.mk hy;have H5:=Aside0.mk h5;have H9:=Aside0.mk h9;clear hC hy h5 h9;obtain ⟨R,hR⟩ : ∃ R,findY y L=R:=⟨_,rfl⟩;have HR:=Aside0.mk hR;rw [hR];clear hR;go_enter Tryz.func94,Tryz.ntmps94;(go_wp2_with fail)
 go_loopw [8,5] (fun i _ wr => ∃ (k:Nat),k≤L.length∧i = .int .i64 k∧Aside0 (∀ l ∈ L.take k,decide (y=l)=false)∧Aside0 (Drawn0 w wr)) (fun i _ _=>L.length - (intOf i).toNat)
 (case atStart=>exact ⟨0,Nat.zero_le _,rfl,⟨by simp⟩,⟨Drawn0.refl _⟩⟩)
 case round =>
  obtain ⟨k,hk,rfl,HF,HD⟩:=hrel
  by_cases hlt:k < L.length
  ·
   obtain ⟨ad,A5,c5,rfl,hrow,hc5,hC5⟩:=at_slice HC.out k hlt;obtain ⟨n,hn⟩:=HD.out;subst hn;(replace hrow:(w.drewN n).cell? (ad.add k)=some (.slice A5 (L.getD k []).length c5):=by simpa using hrow);obtain ⟨l,hle⟩ : ∃ l,L.getD k []=l:=⟨_,rfl⟩;(have hlk:L[k]=l:=by rw [← hle];simp [hlt]);have HLK:=Aside0.mk hlk;(rw [hle] at hrow hc5 hC5);have HC5:Aside0 (Kd.C Kd.string (w.drewN n) A5 l.length l):=⟨Kd.C_drewN hC5 _⟩;have HCY:Aside0 (Kd.C Kd.string (w.drewN n) Ay y.length y):=⟨Kd.C_drewN HY.out _⟩;have H5n:Aside0 ((w.drewN n).cell? ⟨g5,0,none⟩=some (.func (.func 114) #[] #[])):=⟨by simpa using H5.out⟩;have H9n:Aside0 ((w.drewN n).cell? ⟨g9,0,none⟩=some (.slice Ay y.length cy)):=⟨by simpa using H9.out⟩;have Hc5:=Aside0.mk hc5;clear hc5 hC5 hle hlk;obtain ⟨q,hq⟩ : ∃ q,decide (y=l)=q:=⟨_,rfl⟩;have HPL:=Aside0.mk hq;clear hq;(go_wp2_with fail);refine (others_1 g5 g9 y l Ay cy A5 c5 _ H5n.out H9n.out HCY.out ly HC5.out Hc5.out hm).mono ?_;rintro e' w' ⟨rfl,n2,rfl⟩;rw [HPL.out]
   cases q with
   | false =>
    go_wp2;go_roundw;(case measure=>simp [intOf];omega)
    case rel=>exact ⟨k+1,by omega,by go_num,⟨fun x hx=>by
     (rw [← List.take_append_getElem hlt] at hx)
     rcases List.mem_append.1 hx with hx | hx
     (· exact HF.out x hx)
     ·
      rw [List.mem_singleton.1 hx,HLK.out];exact HPL.out⟩,⟨by first | exact ⟨_,rfl⟩ | exact ⟨_,World.drewN_drewN _ _ _⟩⟩⟩
   | true =>
    have HFK:Aside0 (R=(k:Int)):=⟨HR.out.symm.trans (findY_go hlt HF.out (by rw [HLK.out];exact HPL.out))⟩;go_wp2;go_ret;exact ⟨by rw [HFK.out];rfl,by first | exact ⟨_,rfl⟩ | exact ⟨_,World.drewN_drewN _ _ _⟩⟩
  (· (have hk':k=L.length:=by omega);subst hk';(rw [List.take_length] at HF);have HFN:Aside0 (R = -1):=⟨HR.out.symm.trans (findY_none HF.out)⟩;have HD':=HD.out;go_wp2;go_ret;exact ⟨by rw [HFN.out];rfl,HD'⟩)
set_option maxHeartbeats 2000000 in
theorem contains_is (g5 g9:Nat) (y:List ByteArray) (Ay:Option Addr) (cy:Nat) (A:Option Addr) (c:Nat) (L:List (List ByteArray)) (w:World) (h5:w.cell? ⟨g5,0,none⟩=some (.func (.func 114) #[] #[])) (h9:w.cell? ⟨g9,0,none⟩=some (.slice Ay y.length cy))
    (hy:Kd.C Kd.string w Ay y.length y) (ly:y.length≤cy) (hm:y.length≤1000000000000) (hC:Kd.C KSs w A L.length L) (hc:L.length≤c) (hL:L.length≤1000000) :
    Calls Tryz.prog 65 #[.slice A L.length c, .func (.func 126) #[] #[.pointer (some ⟨g5,0,none⟩), .pointer (some ⟨g9,0,none⟩)]] w fun e w'=>e = .returned (.bool (L.any (fun z=>decide (y=z))))∧Drawn0 w w':=by
 obtain ⟨q,hq⟩ : ∃ q,findY y L=q:=⟨_,rfl⟩;have hany:=findY_any y L;(rw [hq] at hany);have HANY:=Aside0.mk hany;have HQ:=Aside0.mk hq;have HC:=Aside0.mk hC;have HY:=Aside0.mk hy;have H5:=Aside0.mk h5;have H9:=Aside0.mk h9;clear hany hq hC hy h5 h9;go_enter Tryz.func65,Tryz.ntmps65;(go_wp2_with fail);refine (index_is g5 g9 y Ay cy A c L _ H5.out H9.out HY.out ly hm HC.out hc hL).mono ?_;rintro e w1 ⟨rfl,n,rfl⟩;rw [HQ.out];go_wp2;go_ret;exact ⟨by rw [HANY.out];rfl,⟨_,rfl⟩⟩
def differStep (x:List ByteArray) (out:List (List ByteArray)) (y:List ByteArray):List (List ByteArray):=if decide (y=x)=false∧out.any (fun z=>decide (y=z))=false then out ++ [y] else out
def differF (x:List ByteArray) (l:List (List ByteArray)):List (List ByteArray):=l.foldl (differStep x) []
theorem differF_snoc (x:List ByteArray) (l:List (List ByteArray)) (y:List ByteArray):differF x (l ++ [y])=differStep x (differF x l) y:=by rw [differF,differF,List.foldl_append];rfl
theorem differF_len (x:List ByteArray) : ∀ (n:Nat) (l:List (List ByteArray)),l.length=n→(differF x l).length≤n
 | 0,l,h=>by rw [List.eq_nil_of_length_eq_zero h];exact Nat.le_refl _
 | n+1,l,h=>by
  have e:l=l.take n ++ [l[n]]:=by
   have:=List.take_append_getElem (l:=l) (i:=n) (by omega);rw [this,List.take_of_length_le (by omega)]
  rw [e,differF_snoc];have:=differF_len x n (l.take n) (by rw [List.length_take];omega);unfold differStep;split;(· (rw [List.length_append,List.length_singleton];omega));(· omega)
set_option maxRecDepth 100000 in
set_option maxHeartbeats 4000000 in
theorem content_others (P:Nat→Prop) (x:List ByteArray) (Ax:Option Addr) (cx:Nat) (A:Option Addr) (c:Nat) (l:List (List ByteArray)) (w:World) (hx:Kd.C Kd.string w Ax x.length x) (lx:x.length≤cx) (hF:Kd.F KSs w P A l.length l) (hc:l.length≤c) (hn:l.length≤1000000) (hm : ∀ y ∈ l,y.length≤1000000000000) :
    Calls Tryz.prog 113 #[.slice Ax x.length cx, .slice A l.length c, .func (.func 114) #[] #[]] w fun e w' => ∃ v,e = .returned v∧Aside0 (Kd.N KSs 22 w' w.heap.size (fun k=>P k∨w.heap.size≤k) v (differF x l))∧Aside0 (Below w.heap.size w w'):=by
 have HX:=Aside0.mk hx;have HF:=Aside0.mk hF;have HM:=Aside0.mk hm;(have hmf : ∀ (fn:Fn) (first cap:Array Value) (w:World),(Instr.makeFunc fn first cap).run Tryz.prog w = .ok (.func fn first cap) w:=fun _ _ _ _=>rfl);clear hx hF hm;go_enter Tryz.func113,Tryz.ntmps113;(go_wp2_with fail);obtain ⟨w1,hw1⟩ : ∃ w1,w.alloc (.cells #[.func (.func 114) #[] #[]] 54)=w1:=⟨_,rfl⟩;have H5:Aside0 (w1.heap[w.heap.size]? = some (.cells #[.func (.func 114) #[] #[]] 54 (0,0))):=⟨by rw [← hw1];exact blk_new _ _⟩;have HB1:Aside0 (Below w.heap.size w w1):=⟨by rw [← hw1];exact newBelow _ _⟩;rw [hw1];clear hw1
 go_loopw [7,13] (fun v iv wr => ∃ (k:Nat) (Ao:Option Addr) (co:Nat),v = .slice Ao (differF x (l.take k)).length co∧iv = .int .i64 k∧k≤l.length∧Aside0 (Kd.N KSs 22 wr w.heap.size (fun k=>P k∨w.heap.size≤k) (.slice Ao (differF x (l.take k)).length co) (differF x (l.take k)))∧Aside0 (wr.heap[w.heap.size]? = some (.cells #[.func (.func 114) #[] #[]] 54 (0,0)))∧Aside0 (Below w.heap.size w wr)) (fun _ iv _=>l.length - (intOf iv).toNat)
 (case atStart=>exact ⟨0,_,_,rfl,rfl,Nat.zero_le _,⟨Kd.N_nil _ _ _ _ _⟩,H5,HB1⟩)
 case round =>
  obtain ⟨k,Ao,co,rfl,rfl,hk,HO,H5r,HBr⟩:=hrel
  by_cases hlt:k < l.length
  ·
   obtain ⟨ad,cs,rfl,hcl,hFK,hcell,_⟩:=Kd.F_get (Kd.F_old HF.out HBr.out) [] (k:Int) (by omega) (by omega);(have hy:l.getD (k:Int).toNat []=l[k]:=by simp [hlt]);have hmy:=HM.out _ (List.getElem_mem hlt);(have htk:differF x (l.take (k+1))=differStep x (differF x (l.take k)) l[k]:=by rw [← List.take_append_getElem hlt,differF_snoc]);obtain ⟨y,hye⟩ : ∃ y,l[k]=y:=⟨_,rfl⟩;(rw [hy,hye] at hFK);(rw [hye] at hmy htk);obtain ⟨Ay,cy,rfl,ly,hFy⟩:=Kd.FK_slice_open hFK;have xy:=hcell 0 _ rfl;(have kk:(k:Int).toNat=k:=by omega);(rw [kk] at xy)
   replace xy:wr.cell? (ad.add k)=some (.slice Ay y.length cy):=by
    (have e:k * KSs.sz+0=k:=by show k * 1+0=k;omega);(rw [e] at xy;exact xy)
   obtain ⟨out,hout⟩ : ∃ out,differF x (l.take k)=out:=⟨_,rfl⟩;(have houl:out.length≤1000000:=by rw [← hout];have:=differF_len x k (l.take k) (by rw [List.length_take];omega);omega);(rw [hout] at HO htk ⊢);have HTK:=Aside0.mk htk;have HFY:=Aside0.mk hFy;have HOUL:=Aside0.mk houl;have HBw:Aside0 (w.heap.size≤wr.heap.size):=⟨HBr.out.size⟩;obtain ⟨hon,hoc,hOC⟩:=Kd.N_reads' HO.out;have HOC:=Aside0.mk hOC;clear kk hy hye htk hFK hcell hFy hout hOC;obtain ⟨q,hq⟩ : ∃ q,decide (y=x)=q:=⟨_,rfl⟩;have HQ:=Aside0.mk hq;clear hq;(go_wp2_with fail);obtain ⟨w2,hw2⟩ : ∃ w2,wr.alloc (.cells #[.slice Ay y.length cy] 22)=w2:=⟨_,rfl⟩;(have g9:w2.heap[wr.heap.size]? = some (.cells #[.slice Ay y.length cy] 22 (0,0)):=by rw [← hw2];exact blk_new _ _);(have hb2:Below wr.heap.size wr w2:=by rw [← hw2];exact newBelow _ _);rw [hw2];refine (others_1 w.heap.size wr.heap.size y x Ay cy Ax cx w2 (cell_blk (farKeep H5r.out hb2) rfl) (cell_blk g9 rfl) (Kd.C_below (Kd.F_now HFY.out) hb2) ly (Kd.C_below HX.out (far_ HBr.out hb2)) lx hmy).mono ?_;rintro e w3' ⟨rfl,n3,hn3⟩;obtain ⟨w3,hw3⟩ : ∃ w3,w3=w3':=⟨_,rfl⟩;rw [← hw3];(rw [← hw3] at hn3);have HB3:Aside0 (Below wr.heap.size wr w3):=⟨by rw [hn3];exact pw_below_drewN hb2 n3⟩;have G9:Aside0 (w3.heap[wr.heap.size]? = some (.cells #[.slice Ay y.length cy] 22 (0,0))):=⟨by rw [hn3];simpa using g9⟩;clear hw3 hw2 hb2 g9 hn3 xy;rw [HQ.out];have HW3:Aside0 (Below w.heap.size w w3):=⟨far_ HBr.out HB3.out⟩
   cases q with
   | true =>
    have HT:Aside0 (differF x (l.take (k+1))=out):=⟨by rw [HTK.out,differStep,if_neg (fun h=>by rw [HQ.out] at h;cases h.1)]⟩;go_wp2;go_roundw;(case measure=>simp [intOf];omega);(case rel=>exact ⟨k+1,_,_,by rw [HT.out],by go_num,by omega,⟨by rw [HT.out];exact Kd.N_below HO.out HB3.out⟩,⟨farKeep H5r.out HB3.out⟩,HW3⟩)
   | false =>
    obtain ⟨q2,hq2⟩ : ∃ q2,out.any (fun z=>decide (y=z))=q2:=⟨_,rfl⟩;have HQ2:=Aside0.mk hq2;clear hq2;(go_wp2_with fail);refine (contains_is w.heap.size wr.heap.size y Ay cy Ao co out w3 (cell_blk (farKeep H5r.out HB3.out) rfl) (cell_blk G9.out rfl) (Kd.C_below (Kd.F_now HFY.out) HB3.out) ly hmy (Kd.C_below HOC.out HB3.out) hoc HOUL.out).mono ?_;rintro e w4' ⟨rfl,n4,hn4⟩;obtain ⟨w4,hw4⟩ : ∃ w4,w4=w4':=⟨_,rfl⟩;rw [← hw4];(rw [← hw4] at hn4);have HB4:Aside0 (Below wr.heap.size wr w4):=⟨by rw [hn4];exact pw_below_drewN HB3.out n4⟩;(have z9:w4.cell? ⟨wr.heap.size,0,none⟩=some (.slice Ay y.length cy):=by rw [hn4];simpa using cell_blk G9.out rfl);clear hw4 hn4;rw [HQ2.out];have HW4:Aside0 (Below w.heap.size w w4):=⟨far_ HBr.out HB4.out⟩;have HO4:=Aside0.mk (Kd.N_below HO.out HB4.out)
    cases q2 with
    | true =>
     have HT:Aside0 (differF x (l.take (k+1))=out):=⟨by rw [HTK.out,differStep,if_neg (fun h=>by rw [HQ2.out] at h;cases h.2)]⟩;go_wp2;go_roundw;(case measure=>simp [intOf];omega);(case rel=>exact ⟨k+1,_,_,by rw [HT.out],by go_num,by omega,⟨by rw [HT.out];exact HO4.out⟩,⟨farKeep H5r.out HB4.out⟩,HW4⟩)
    | false =>
     have HT:Aside0 (differF x (l.take (k+1))=out ++ [y]):=⟨by rw [HTK.out,differStep,if_pos ⟨HQ.out,HQ2.out⟩]⟩;have HFK:Aside0 (Kd.FK KSs w4 (fun k=>P k∧k < w.heap.size) y [.slice Ay y.length cy]):=⟨Kd.FK_slice_mk ly (Kd.F_below HFY.out HB4.out)⟩;(go_wp2_with (first | (at_builtin;refine Kd.N_append KSs (w0:=w) w.heap.size rfl (.tmp 28) (.tmp 30) 23 22 (.slice none 0 0) 24 rfl Tryz.underlying23 info22 rfl Nat.zero_lt_one (by decide) (.slice Ao out.length co) out y [.slice Ay y.length cy] (fun k=>P k∨w.heap.size≤k) (fun k=>P k∧k < w.heap.size) rfl rfl HFK.out (fun k hk=>⟨.inl hk.1,fun e=>by have:=Kd.N_base HO4.out k e.symm;have:=hk.2;omega⟩) (fun k hk => .inr (Nat.le_trans (Nat.le_trans HBw.out HB4.out.size) hk)) HO4.out (far_ HBr.out HB4.out) (Nat.le_trans HBw.out HB4.out.size) (by have:=HOUL.out;omega) ?_;intro v5 w5 ho5 hb5 hg5 hat5;obtain ⟨A5,c5,hv5⟩:=Kd.N_slice ho5;subst hv5;have HO5:=Aside0.mk ho5;have HB5:=Aside0.mk hb5;have HG5:=Aside0.mk hg5;clear ho5 hb5 hg5 hat5)));go_roundw;(case measure=>simp [intOf];omega)
     case rel =>
      have h54:=farKeep H5r.out HB4.out;refine ⟨k+1,A5,c5,by rw [HT.out,List.length_append,List.length_singleton],by go_num,by omega,⟨by rw [HT.out];exact HO5.out⟩,⟨(HG5.out.block w.heap.size (blk_lt h54) (Kd.N_ne HO4.out h54 (by decide))).trans h54⟩,HB5⟩
  (· (have hk':k=l.length:=by omega);subst hk';(rw [List.take_length] at HO ⊢);go_wp2;go_ret;exact ⟨_,rfl,HO,HBr⟩)
set_option maxHeartbeats 2000000 in
theorem content_Differing (P:Nat→Prop) (x:List ByteArray) (Ax:Option Addr) (cx:Nat) (A:Option Addr) (c:Nat) (l:List (List ByteArray)) (w:World) (hx:Kd.C Kd.string w Ax x.length x) (lx:x.length≤cx) (hF:Kd.F KSs w P A l.length l) (hc:l.length≤c) (hn:l.length≤1000000) (hm : ∀ y ∈ l,y.length≤1000000000000) :
    Calls Tryz.prog 102 #[.slice Ax x.length cx, .slice A l.length c] w fun e w' => ∃ v,e = .returned v∧Aside0 (Kd.N KSs 22 w' w.heap.size (fun k=>P k∨w.heap.size≤k) v (differF x l))∧Aside0 (Below w.heap.size w w'):=by
 have HX:=Aside0.mk hx;have HF:=Aside0.mk hF;have HM:=Aside0.mk hm;clear hx hF hm;go_enter Tryz.func102,Tryz.ntmps102;(go_wp2_with fail);refine (content_others P x Ax cx A c l _ HX.out lx HF.out hc hn HM.out).mono ?_;rintro e w1 ⟨v,rfl,HN,HB⟩;go_wp2;go_ret;exact ⟨_,rfl,HN,HB⟩
abbrev Piece:=S66
def cleanB (l:List Piece):Bool := !l.any (fun p=>p.f0)
def chosen (side:Int) (p:Piece):List ByteArray:=if p.f0=false then p.f1 else if 1≤side∧side≤(p.f3.length:Int) then p.f3.getD (side - 1).toNat [] else []
def chooseF (l:List Piece) (side:Int):List ByteArray:=(l.map (chosen side)).flatten
/-- What Choose holds: the texts so far, the side. -/
def ChIn (w0 W:World) (B gb gs:Nat) (side:Int) (out:List ByteArray):Prop :=
  ∃ vo,W.heap[gb]? = some (.cells #[vo] 22 (0,0))∧B≤gb∧W.heap[gs]? = some (.cells #[.int .i64 side] 3 (0,0))∧Kd.R Kd.string 9 W B (fun _=>True) vo out∧Below B w0 W
theorem ChIn.below {w0 W W':World} {B gb gs:Nat} {side:Int} {out:List ByteArray} (h:ChIn w0 W B gb gs side out) (hb:Below W.heap.size W W') (hB:B≤W.heap.size):ChIn w0 W' B gb gs side out:=by
 obtain ⟨vo,q1,q2,q3,q4,q5⟩:=h;exact ⟨vo,farKeep q1 hb,q2,farKeep q3 hb,Kd.R_below q4 hb,q5.trans (hb.mono hB)⟩
theorem ChIn.bel {w0 W:World} {B gb gs:Nat} {side:Int} {out:List ByteArray} (h:ChIn w0 W B gb gs side out):Below B w0 W:=by
 (obtain ⟨vo,q1,q2,q3,q4,q5⟩:=h;exact q5)
abbrev KIa:Kd (List Int):=Kd.slice 3 (Kd.int .i64)
/-- Is a place paired in all? -/
def stableB (ms:List (List Int)) (k:Nat):Bool:=ms.all (fun l=>decide (0≤l.getD k 0))
/-- Does a place go on from the one ahead, in all? -/
def joinB (ms:List (List Int)) (k:Nat):Bool:=ms.all (fun l=>decide (0≤l.getD k 0∧l.getD k 0=l.getD (k - 1) 0+1))
def runGo (m:Nat) (ms:List (List Int)):Nat→Nat→Nat
  | 0,at_=>at_
  | r+1,at_=>if at_ < m∧joinB ms at_=true then runGo m ms r (at_+1) else at_
/-- Where a run that begins at a place ends. -/
def runF (m:Nat) (ms:List (List Int)) (from_:Nat):Nat:=runGo m ms (m - from_) (from_+1)
/-- The lists are so long. -/
def AllLen (ms:List (List Int)) (m:Nat):Prop := ∀ l ∈ ms,l.length=m
set_option maxRecDepth 100000 in
set_option maxHeartbeats 2000000 in
theorem align_stable (g:Nat) (A:Option Addr) (c:Nat) (ms:List (List Int)) (m k:Nat) (w:World) (hg:w.cell? ⟨g,0,none⟩=some (.slice A ms.length c)) (hC:Kd.C KIa w A ms.length ms) (hl:AllLen ms m) (hk:k < m) (hm:m≤1000000) (hn:ms.length≤1000000) :
    Calls Tryz.prog 72 #[.int .i64 (k:Int), .pointer (some ⟨g,0,none⟩)] w fun e w'=>e = .returned (.bool (stableB ms k))∧Drawn0 w w':=by
 have HC:=Aside0.mk hC;have HL:=Aside0.mk hl;clear hC hl;obtain ⟨R,hR⟩ : ∃ R,stableB ms k=R:=⟨_,rfl⟩;have HR:=Aside0.mk hR;rw [hR];clear hR;go_enter Tryz.func72,Tryz.ntmps72;(go_wp2_with fail)
 go_loopw [8] (fun s8 wr => ∃ (j:Nat),s8 = .int .i64 j∧j≤ms.length∧Aside0 (∀ l ∈ ms.take j,0≤l.getD k 0)∧Aside0 (Drawn0 w wr)) (fun s8 _=>ms.length - (intOf s8).toNat)
 (case atStart=>exact ⟨0,rfl,Nat.zero_le _,⟨by simp⟩,⟨Drawn0.refl _⟩⟩)
 case round =>
  obtain ⟨j,rfl,hj,HP,HD⟩:=hrel
  by_cases hj':j < ms.length
  ·
   have d1:decide ((j:Int) < (ms.length:Int))=true:=decide_eq_true (by omega);have d2:decide (j < ms.length)=true:=decide_eq_true hj';obtain ⟨n,hn0⟩:=HD.out.out;subst hn0;have hCr:=Kd.C_drewN HC.out n;obtain ⟨ad,Al,cl,rfl,xl,hcl,kcl⟩:=at_slice hCr j hj';(have hg0:ms.getD j []=ms[j]:=by simp [hj']);(rw [hg0] at xl hcl kcl);have hlen:=HL.out ms[j] (List.getElem_mem _);obtain ⟨l,hl⟩ : ∃ l,ms[j]=l:=⟨_,rfl⟩;have HLJ:=Aside0.mk hl;(rw [hl] at xl hcl kcl hlen);have e1:decide ((k:Int) < (l.length:Int))=true:=decide_eq_true (by omega);have e2:decide (k < l.length)=true:=decide_eq_true (by omega);obtain ⟨al,rfl,xk⟩:=at_num kcl k (by omega);have HXK:=Aside0.mk kcl;clear hl hg0 kcl hCr
   by_cases h0:0≤l.getD k 0
   ·
    have f1:decide (l.getD k 0 < 0)=false:=decide_eq_false (by omega);obtain ⟨v,hv⟩ : ∃ v,l.getD k 0=v:=⟨_,rfl⟩;have HV:=Aside0.mk hv;(rw [hv] at xk f1 h0);clear hv;go_wp2;go_roundw;(case measure=>simp [intOf];omega)
    case rel=>exact ⟨j+1,by go_num,by omega,⟨fun x hx=>by
     (rw [← List.take_append_getElem hj',HLJ.out] at hx)
     rcases List.mem_append.1 hx with hx | hx
     (· exact HP.out x hx)
     ·
      rw [List.mem_singleton.1 hx,HV.out];exact h0⟩,HD⟩
   ·
    have f1:decide (l.getD k 0 < 0)=true:=decide_eq_true (by omega)
    have HF:Aside0 (R=false):=⟨by
     rw [← HR.out,stableB,List.all_eq_false]
     exact ⟨ms[j],List.getElem_mem _,by rw [HLJ.out];simpa using h0⟩⟩
    obtain ⟨v,hv⟩ : ∃ v,l.getD k 0=v:=⟨_,rfl⟩;(rw [hv] at xk f1 h0);clear hv;go_wp2;go_ret;exact ⟨by rw [HF.out];rfl,HD.out⟩
  ·
   have d1:decide ((j:Int) < (ms.length:Int))=false:=decide_eq_false (by omega);have d2:decide (j < ms.length)=false:=decide_eq_false hj'
   have HF:Aside0 (R=true):=⟨by
    rw [← HR.out,stableB,List.all_eq_true];intro x hx;have:=HP.out x (by rw [List.take_of_length_le (by omega)];exact hx)
    simpa using this⟩
   go_wp2;go_ret;exact ⟨by rw [HF.out];rfl,HD.out⟩
set_option maxRecDepth 100000 in
set_option maxHeartbeats 2000000 in
theorem align_run (A:Option Addr) (c:Nat) (ms:List (List Int)) (m from_:Nat) (w:World) (hC:Kd.C KIa w A ms.length ms) (hc:ms.length≤c) (hl:AllLen ms m) (hv : ∀ l ∈ ms,∀ i, -1≤l.getD i 0∧l.getD i 0≤1000000) (hf:from_ < m) (hm:m≤1000000) (hn:ms.length≤1000000) :
    Calls Tryz.prog 73 #[.int .i64 (m:Int), .slice A ms.length c, .int .i64 (from_:Int)] w fun e w'=>e = .returned (.int .i64 (runF m ms from_:Nat))∧Drawn0 w w':=by
 have HC:=Aside0.mk hC;have HL:=Aside0.mk hl;have HVV:=Aside0.mk hv;clear hC hl hv;obtain ⟨R,hR⟩ : ∃ R,runF m ms from_=R:=⟨_,rfl⟩;have HR:=Aside0.mk hR;rw [hR];clear hR;go_enter Tryz.func73,Tryz.ntmps73;(go_wp2_with fail)
 go_step3
 (go_wp2_with fail)
 go_step3
 (go_wp2_with fail)
 go_loopg [7] (m - (from_+1)) (fun g s7 wx => ∃ (at_:Nat),s7 = .int .i64 at_∧at_+g=m∧from_ < at_∧Aside0 (runGo m ms (m+1 - at_) at_=R)∧Aside0 (Drawn0 w wx))
 (case atStart=>exact ⟨from_+1,by go_num,by omega,by omega,⟨by rw [← HR.out,runF];congr 1;omega⟩,⟨Drawn0.refl _⟩⟩)
 case round =>
  obtain ⟨wo,rfl⟩ : ∃ wq,wq=wr:=⟨_,rfl⟩;obtain ⟨at_,rfl,hg,hfa,HI,HD⟩:=hrel
  by_cases ha:at_ < m
  ·
   have a1:decide ((at_:Int) < (m:Int))=true:=decide_eq_true (by omega);have a2:decide (at_ < m)=true:=decide_eq_true ha;(go_wp2_with fail)
   go_loopg [19] ms.length (fun g2 s19 wy => ∃ (j:Nat),s19 = .int .i64 j∧j+g2=ms.length∧Aside0 (∀ l ∈ ms.take j,0≤l.getD at_ 0∧l.getD at_ 0=l.getD (at_ - 1) 0+1)∧Aside0 (Drawn0 w wy))
   (case atStart=>exact ⟨0,rfl,by omega,⟨by simp⟩,HD⟩)
   case round =>
    obtain ⟨j,rfl,hj,HP,HQ⟩:=hrel
    by_cases hj':j < ms.length
    ·
     have d1:decide ((j:Int) < (ms.length:Int))=true:=decide_eq_true (by omega);have d2:decide (j < ms.length)=true:=decide_eq_true hj';obtain ⟨n,hn0⟩:=HQ.out.out;subst hn0;have hCr:=Kd.C_drewN HC.out n;obtain ⟨ad,Al,cl,rfl,xl,hcl,kcl⟩:=at_slice hCr j hj';(have hg0:ms.getD j []=ms[j]:=by simp [hj']);(rw [hg0] at xl hcl kcl);have hlen:=HL.out ms[j] (List.getElem_mem _);obtain ⟨l,hl⟩ : ∃ l,ms[j]=l:=⟨_,rfl⟩;have HLJ:=Aside0.mk hl;(rw [hl] at xl hcl kcl hlen);obtain ⟨p,hp⟩ : ∃ p,at_=p+1:=⟨at_ - 1,by omega⟩;(have hpm:p≤1000000:=by omega);(have e5:at_ < l.length:=by omega);(have e6:p < l.length:=by omega);have e1:decide ((at_:Int) < (l.length:Int))=true:=decide_eq_true (by omega);have e2:decide (at_ < l.length)=true:=decide_eq_true (by omega);have e3:decide ((p:Int) < (l.length:Int))=true:=decide_eq_true (by omega);have e4:decide (p < l.length)=true:=decide_eq_true (by omega);obtain ⟨al,rfl,xk⟩:=at_num kcl at_ (by omega);obtain ⟨al2,ea,xp⟩:=at_num kcl p (by omega);obtain rfl:=Option.some.inj ea;(have ep:(at_:Int) - 1=(p:Int):=by omega);have HPA:Aside0 (at_ - 1=p):=⟨by omega⟩;have HPB:=Aside0.mk hp;clear hp;clear ea hl hg0 kcl hCr;obtain ⟨v,hv⟩ : ∃ v,l.getD at_ 0=v:=⟨_,rfl⟩;obtain ⟨u,hu⟩ : ∃ u,l.getD p 0=u:=⟨_,rfl⟩;have HV:=Aside0.mk hv;have HU:=Aside0.mk hu;(rw [hv] at xk);(rw [hu] at xp);clear hv hu
     by_cases h0:0≤v
     ·
      have f1:decide (v < 0)=false:=decide_eq_false (by omega);have hub:=HVV.out ms[j] (List.getElem_mem _) p;(rw [HLJ.out,HU.out] at hub);obtain ⟨hub1,hub2⟩:=hub;(have hpm2:(p:Int) < (m:Int):=by omega);(have hpm3:(0:Int)≤(p:Int):=by omega);go_wp2;have ws1:wrap64 (p:Int)=(p:Int):=gw (by omega) (by omega);have ws2:wrap64 (u+1)=u+1:=gw (by omega) (by omega);refine start_ (n:=18) (S:=fun w'=>w'.cell? (al.add at_)=some (.int .i64 v)∧w'.cell? (al.add p)=some (.int .i64 u)) (ds:=[]) #[false,false,false,false,false,false,false,false,false,false,false,false,false,false,false,false,false,false] (by kernel_rfl) rfl rfl ⟨xk,xp⟩ (fun hHeld=>?_);refine pq_ (i:=0) (N:=some 23) #[true,false,false,false,false,false,false,false,false,false,false,false,false,false,false,false,false,false] ?_;refine pq_ (i:=1) (N:=some 24) #[true,true,false,false,false,false,false,false,false,false,false,false,false,false,false,false,false,false] ?_;refine pq_ (i:=2) (N:=some 25) #[true,true,true,false,false,false,false,false,false,false,false,false,false,false,false,false,false,false] ?_;refine tq_ (i:=3) (N:=some 26) #[true,true,true,true,false,false,false,false,false,false,false,false,false,false,false,false,false,false] hHeld ?_;refine pq_ (i:=4) (N:=some 27) #[true,true,true,true,true,false,false,false,false,false,false,false,false,false,false,false,false,false] ?_;refine pq_ (i:=5) (N:=some 28) #[true,true,true,true,true,true,false,false,false,false,false,false,false,false,false,false,false,false] ?_;refine pq_ (i:=6) (N:=some 29) #[true,true,true,true,true,true,true,false,false,false,false,false,false,false,false,false,false,false] ?_;refine pq_ (i:=7) (N:=some 30) #[true,true,true,true,true,true,true,true,false,false,false,false,false,false,false,false,false,false] ?_;refine pq_ (i:=8) (N:=some 31) #[true,true,true,true,true,true,true,true,true,false,false,false,false,false,false,false,false,false] ?_;refine pq_ (i:=10) (N:=some 33) #[true,true,true,true,true,true,true,true,true,false,true,false,false,false,false,false,false,false] ?_;refine pq_ (i:=11) (N:=some 34) #[true,true,true,true,true,true,true,true,true,false,true,true,false,false,false,false,false,false] ?_;refine pq_ (i:=12) (N:=some 35) #[true,true,true,true,true,true,true,true,true,false,true,true,true,false,false,false,false,false] ?_
      refine pq_ (i:=13) (N:=some 36) #[true,true,true,true,true,true,true,true,true,false,true,true,true,true,false,false,false,false] ?_;refine tq_ (i:=9) (N:=some 32) #[true,true,true,true,true,true,true,true,true,true,true,true,true,true,false,false,false,false] hHeld ?_;refine tq_ (i:=14) (N:=some 37) #[true,true,true,true,true,true,true,true,true,true,true,true,true,true,true,false,false,false] hHeld ?_;refine pq_ (i:=15) (N:=some 38) #[true,true,true,true,true,true,true,true,true,true,true,true,true,true,true,true,false,false] ?_;refine pq_ (i:=16) (N:=some 39) #[true,true,true,true,true,true,true,true,true,true,true,true,true,true,true,true,true,false] ?_;refine pq_ (i:=17) (N:=some 40) #[true,true,true,true,true,true,true,true,true,true,true,true,true,true,true,true,true,true] ?_;refine done_ (by kernel_rfl) ?_;clear ws1 ws2
      by_cases h1:v=u+1
      ·
       (have g1:(v != u+1)=false:=by simp [h1]);have HST:Aside0 (0≤l.getD at_ 0∧l.getD at_ 0=l.getD (at_ - 1) 0+1):=⟨by rw [HV.out,HPA.out,HU.out];exact ⟨h0,h1⟩⟩;clear h1;go_wp2
       go_roundg (ms.length - (j+1))
       (case measure=>omega)
       case rel=>exact ⟨j+1,by go_num,by omega,⟨fun x hx=>by
        (rw [← List.take_append_getElem hj',HLJ.out] at hx)
        rcases List.mem_append.1 hx with hx | hx
        (· exact HP.out x hx)
        ·
         rw [List.mem_singleton.1 hx];exact HST.out⟩,⟨⟨⟨_,rfl⟩⟩⟩⟩
      ·
       (have g1:(v != u+1)=true:=by simpa using h1)
       have HF:Aside0 (R=at_):=⟨by
        rw [← HI.out,show m+1 - at_=(m - at_)+1 by omega,runGo,if_neg];rintro ⟨_,h2⟩;have:=List.all_eq_true.1 h2 ms[j] (List.getElem_mem _);(rw [HLJ.out,HV.out,HPA.out,HU.out] at this)
        exact h1 (of_decide_eq_true this).2⟩
       go_wp2;(try rw [Exit.noGoto_ret]);go_ret;exact ⟨by rw [HF.out];rfl,HQ.out.step _⟩
     ·
      have f1:decide (v < 0)=true:=decide_eq_true (by omega)
      have HF:Aside0 (R=at_):=⟨by
       rw [← HI.out,show m+1 - at_=(m - at_)+1 by omega,runGo,if_neg];rintro ⟨_,h2⟩;have:=List.all_eq_true.1 h2 ms[j] (List.getElem_mem _);(rw [HLJ.out,HV.out] at this)
       exact h0 (of_decide_eq_true this).1⟩
      clear ep hlen e3 e4 e6 xp;go_wp2;refine start_ (n:=18) (S:=fun w'=>w'.cell? (al.add at_)=some (.int .i64 v)) (ds:=[]) #[false,false,false,false,false,false,false,false,false,false,false,false,false,false,false,false,false,false] (by kernel_rfl) rfl rfl (xk) (fun hHeld=>?_);refine pq_ (i:=0) (N:=some 23) #[true,false,false,false,false,false,false,false,false,false,false,false,false,false,false,false,false,false] ?_;refine pq_ (i:=1) (N:=some 24) #[true,true,false,false,false,false,false,false,false,false,false,false,false,false,false,false,false,false] ?_;refine pq_ (i:=2) (N:=some 25) #[true,true,true,false,false,false,false,false,false,false,false,false,false,false,false,false,false,false] ?_;refine tq_ (i:=3) (N:=some 26) #[true,true,true,true,false,false,false,false,false,false,false,false,false,false,false,false,false,false] hHeld ?_;refine pq_ (i:=4) (N:=some 27) #[true,true,true,true,true,false,false,false,false,false,false,false,false,false,false,false,false,false] ?_;refine pq_ (i:=5) (N:=some 28) #[true,true,true,true,true,true,false,false,false,false,false,false,false,false,false,false,false,false] ?_;refine pu_ (i:=6) (N:=some 29) #[true,true,true,true,true,true,true,false,false,false,false,false,false,false,false,false,false,false] ?_;refine pu_ (i:=7) (N:=some 30) #[true,true,true,true,true,true,true,true,false,false,false,false,false,false,false,false,false,false] ?_;refine pu_ (i:=8) (N:=some 31) #[true,true,true,true,true,true,true,true,true,false,false,false,false,false,false,false,false,false] ?_;refine pu_ (i:=9) (N:=some 32) #[true,true,true,true,true,true,true,true,true,true,false,false,false,false,false,false,false,false] ?_;refine pu_ (i:=10) (N:=some 33) #[true,true,true,true,true,true,true,true,true,true,true,false,false,false,false,false,false,false] ?_;refine pu_ (i:=11) (N:=some 34) #[true,true,true,true,true,true,true,true,true,true,true,true,false,false,false,false,false,false] ?_;refine pu_ (i:=12) (N:=some 35) #[true,true,true,true,true,true,true,true,true,true,true,true,true,false,false,false,false,false] ?_;refine pu_ (i:=13) (N:=some 36) #[true,true,true,true,true,true,true,true,true,true,true,true,true,true,false,false,false,false] ?_
      refine pu_ (i:=14) (N:=some 37) #[true,true,true,true,true,true,true,true,true,true,true,true,true,true,true,false,false,false] ?_;refine pu_ (i:=15) (N:=some 38) #[true,true,true,true,true,true,true,true,true,true,true,true,true,true,true,true,false,false] ?_;refine pu_ (i:=16) (N:=some 39) #[true,true,true,true,true,true,true,true,true,true,true,true,true,true,true,true,true,false] ?_;refine pq_ (i:=17) (N:=some 40) #[true,true,true,true,true,true,true,true,true,true,true,true,true,true,true,true,true,true] ?_;refine done_ (by kernel_rfl) ?_;go_wp2;(try rw [Exit.noGoto_ret]);go_ret;exact ⟨by rw [HF.out];rfl,HQ.out.step _⟩
    ·
     have d1:decide ((j:Int) < (ms.length:Int))=false:=decide_eq_false (by omega);have d2:decide (j < ms.length)=false:=decide_eq_false hj'
     have HN:Aside0 (runGo m ms (m+1 - (at_+1)) (at_+1)=R):=⟨by
      rw [← HI.out,show m+1 - at_=(m+1 - (at_+1))+1 by omega,runGo,if_pos];refine ⟨ha,List.all_eq_true.2 fun x hx=>?_⟩;have:=HP.out x (by rw [List.take_of_length_le (by omega)];exact hx)
      exact decide_eq_true this⟩
     go_wp2
     go_roundg (m - (at_+1))
     (case measure=>omega);(case rel=>exact ⟨at_+1,by go_num,by omega,by omega,HN,HQ⟩)
  ·
   have a1:decide ((at_:Int) < (m:Int))=false:=decide_eq_false (by omega);have a2:decide (at_ < m)=false:=decide_eq_false ha
   have HF:Aside0 (R=at_):=⟨by
    rw [← HI.out,show m+1 - at_=1 by omega,runGo,if_neg (fun h=>ha h.1)]⟩
   go_wp2;(try rw [Exit.noGoto_ret]);go_ret;exact ⟨by rw [HF.out];rfl,HD.out⟩
set_option maxRecDepth 100000 in
set_option maxHeartbeats 2000000 in
theorem align_at2 (g gk:Nat) (A:Option Addr) (c:Nat) (ms:List (List Int)) (m k i:Nat) (w:World) (hg:w.cell? ⟨g,0,none⟩=some (.slice A ms.length c)) (hgk:w.cell? ⟨gk,0,none⟩=some (.int .i64 (k:Int))) (hC:Kd.C KIa w A ms.length ms) (hl:AllLen ms m) (hk:k < m) (hm:m≤1000000) (hi:i < ms.length) :
    Calls Tryz.prog 75 #[.int .i64 (i:Int), .pointer (some ⟨g,0,none⟩), .pointer (some ⟨gk,0,none⟩)] w fun e w'=>e = .returned (.int .i64 ((ms.getD i []).getD k 0))∧Drawn0 w w':=by
 obtain ⟨ad,Al,cl,rfl,xl,hcl,kcl⟩:=at_slice hC i hi;(have hg0:ms.getD i []=ms[i]:=by simp [hi]);have hlen:=hl ms[i] (List.getElem_mem _);(rw [hg0] at xl hcl kcl ⊢);obtain ⟨l,hl0⟩ : ∃ l,ms[i]=l:=⟨_,rfl⟩;(rw [hl0] at xl hcl kcl hlen ⊢);obtain ⟨al,rfl,xk⟩:=at_num kcl k (by omega);obtain ⟨v,hv⟩ : ∃ v,l.getD k 0=v:=⟨_,rfl⟩;(rw [hv] at xk ⊢);have e1:decide ((i:Int) < (ms.length:Int))=true:=decide_eq_true (by omega);have e2:decide (i < ms.length)=true:=decide_eq_true hi;(have e3:k < l.length:=by omega);(have e4:(k:Int) < (l.length:Int):=by omega);clear hg0 hl0 kcl hC hv hlen;go_enter Tryz.func75,Tryz.ntmps75;go_wp2;refine start_ (n:=8) (S:=fun w'=>w'.cell? ⟨g,0,none⟩=some (.slice (some ad) ms.length c)∧w'.cell? ⟨gk,0,none⟩=some (.int .i64 (k:Int))∧w'.cell? (ad.add i)=some (.slice (some al) l.length cl)∧w'.cell? (al.add k)=some (.int .i64 v)) (ds:=[]) #[false,false,false,false,false,false,false,false] (by kernel_rfl) rfl rfl ⟨hg,hgk,xl,xk⟩ (fun hHeld=>?_);refine pq_ (i:=1) (N:=some 6) #[false,true,false,false,false,false,false,false] ?_;refine tq_ (i:=0) (N:=some 5) #[true,true,false,false,false,false,false,false] hHeld ?_;refine pq_ (i:=2) (N:=some 7) #[true,true,true,false,false,false,false,false] ?_;refine tq_ (i:=3) (N:=some 8) #[true,true,true,true,false,false,false,false] hHeld ?_;refine tq_ (i:=4) (N:=some 9) #[true,true,true,true,true,false,false,false] hHeld ?_;refine pq_ (i:=5) (N:=some 10) #[true,true,true,true,true,true,false,false] ?_;refine tq_ (i:=6) (N:=some 11) #[true,true,true,true,true,true,true,false] hHeld ?_;refine pq_ (i:=7) (N:=some 4) #[true,true,true,true,true,true,true,true] ?_;refine done_ (by kernel_rfl) ?_;go_wp2;go_ret;exact ⟨rfl,⟨⟨_,rfl⟩⟩⟩
set_option maxRecDepth 100000 in
set_option maxHeartbeats 2000000 in
theorem align_at3 (g gk:Nat) (A:Option Addr) (c:Nat) (ms:List (List Int)) (m k i:Nat) (w:World) (hg:w.cell? ⟨g,0,none⟩=some (.slice A ms.length c)) (hgk:w.cell? ⟨gk,0,none⟩=some (.int .i64 ((k:Int)+1))) (hC:Kd.C KIa w A ms.length ms) (hl:AllLen ms m) (hv : ∀ l ∈ ms,∀ i, -1≤l.getD i 0∧l.getD i 0≤1000000) (hk:k < m) (hm:m≤1000000) (hi:i < ms.length) :
    Calls Tryz.prog 76 #[.int .i64 (i:Int), .pointer (some ⟨g,0,none⟩), .pointer (some ⟨gk,0,none⟩)] w fun e w'=>e = .returned (.int .i64 ((ms.getD i []).getD k 0+1))∧Drawn0 w w':=by
 obtain ⟨ad,Al,cl,rfl,xl,hcl,kcl⟩:=at_slice hC i hi;(have hg0:ms.getD i []=ms[i]:=by simp [hi]);have hlen:=hl ms[i] (List.getElem_mem _);have hb:=hv ms[i] (List.getElem_mem _) k;(rw [hg0] at xl hcl kcl ⊢);obtain ⟨l,hl0⟩ : ∃ l,ms[i]=l:=⟨_,rfl⟩;(rw [hl0] at xl hcl kcl hlen hb ⊢);obtain ⟨al,rfl,xk⟩:=at_num kcl k (by omega);obtain ⟨v,hv0⟩ : ∃ v,l.getD k 0=v:=⟨_,rfl⟩;(rw [hv0] at xk hb ⊢);have e1:decide ((i:Int) < (ms.length:Int))=true:=decide_eq_true (by omega);have e2:decide (i < ms.length)=true:=decide_eq_true hi;(have e3:k < l.length:=by omega);(have e4:(k:Int) < (l.length:Int):=by omega);(have e5:(0:Int)≤(k:Int):=by omega);clear hg0 hl0 kcl hC hv0 hlen hv;go_enter Tryz.func76,Tryz.ntmps76;go_wp2;have ws1:wrap64 (k:Int)=(k:Int):=gw (by omega) (by omega);have ws2:wrap64 (v+1)=v+1:=gw (by omega) (by omega);refine start_ (n:=10) (S:=fun w'=>w'.cell? ⟨g,0,none⟩=some (.slice (some ad) ms.length c)∧w'.cell? ⟨gk,0,none⟩=some (.int .i64 ((k:Int)+1))∧w'.cell? (ad.add i)=some (.slice (some al) l.length cl)∧w'.cell? (al.add k)=some (.int .i64 v)) (ds:=[]) #[false,false,false,false,false,false,false,false,false,false] (by kernel_rfl) rfl rfl ⟨hg,hgk,xl,xk⟩ (fun hHeld=>?_);refine pq_ (i:=1) (N:=some 6) #[false,true,false,false,false,false,false,false,false,false] ?_;refine tq_ (i:=0) (N:=some 5) #[true,true,false,false,false,false,false,false,false,false] hHeld ?_;refine pq_ (i:=2) (N:=some 7) #[true,true,true,false,false,false,false,false,false,false] ?_;refine tq_ (i:=3) (N:=some 8) #[true,true,true,true,false,false,false,false,false,false] hHeld ?_;refine tq_ (i:=4) (N:=some 9) #[true,true,true,true,true,false,false,false,false,false] hHeld ?_;refine pq_ (i:=5) (N:=some 10) #[true,true,true,true,true,true,false,false,false,false] ?_;refine pq_ (i:=6) (N:=some 11) #[true,true,true,true,true,true,true,false,false,false] ?_;refine tq_ (i:=7) (N:=some 12) #[true,true,true,true,true,true,true,true,false,false] hHeld ?_;refine pq_ (i:=8) (N:=some 13) #[true,true,true,true,true,true,true,true,true,false] ?_;refine pq_ (i:=9) (N:=some 4) #[true,true,true,true,true,true,true,true,true,true] ?_;refine done_ (by kernel_rfl) ?_;clear ws1 ws2;go_wp2;go_ret;exact ⟨rfl,⟨⟨_,rfl⟩⟩⟩
theorem align_at4 (g:Nat) (A:Option Addr) (c:Nat) (sz:List Int) (i:Nat) (w:World) (hg:w.cell? ⟨g,0,none⟩=some (.slice A sz.length c)) (hC:Kd.C (Kd.int .i64) w A sz.length sz) (hi:i < sz.length) :
    Calls Tryz.prog 77 #[.int .i64 (i:Int), .pointer (some ⟨g,0,none⟩)] w fun e w'=>e = .returned (.int .i64 (sz.getD i 0))∧Drawn0 w w':=by
 obtain ⟨al,rfl,xk⟩:=at_num hC i hi;obtain ⟨v,hv0⟩ : ∃ v,sz.getD i 0=v:=⟨_,rfl⟩;(rw [hv0] at xk ⊢);have e1:decide ((i:Int) < (sz.length:Int))=true:=decide_eq_true (by omega);have e2:decide (i < sz.length)=true:=decide_eq_true hi;clear hC hv0;go_enter Tryz.func77,Tryz.ntmps77;go_wp2;go_ret;exact ⟨rfl,Drawn0.refl _⟩
theorem C_none {α:Type} {d:Kd α} {w:World} {n:Nat} {xs:List α} (h:Kd.C d w none n xs):n=0∧xs=[]:=by
 have h1:=h.1
 rcases Nat.eq_zero_or_pos n with h0 | h0
 (· subst h0;exact ⟨rfl,List.length_eq_zero_iff.1 h1⟩);(· obtain ⟨ad,e,_⟩:=h.2.2 h0;cases e)
set_option maxHeartbeats 4000000 in
set_option maxRecDepth 100000 in
theorem slices_Clone_int.calls (A0:Option Addr) (c0:Nat) (l0:List Int) (w:World) (hr0:Kd.C (Kd.int .i64) w A0 l0.length l0) (hc0:l0.length≤c0) (hb:l0.length < 17592186044416) :
    Calls Tryz.prog 68 #[.slice A0 l0.length c0] w fun e w' => ∃ v0_:Value,e = .returned v0_∧Kd.R (Kd.int .i64) 3 w' w.heap.size (fun _=>True) v0_ l0∧Below w.heap.size w w':=by
 (have q22 : ∀ (w:World) (a:Option Addr) (n c n' c':Nat),(binOp .eql 72 (.slice a n c) (.slice none n' c')).run Tryz.prog w = .ok (.bool a.isNone) w:=fun w a n c n' c'=>Lib.run_eql_slice_nil w _ _ a n c n' c' Tryz.underlying72)
 cases A0 with
 | none =>
  obtain ⟨h0,rfl⟩:=C_none hr0;clear hr0 hb h0;go_enter Tryz.func68,Tryz.ntmps68;go_wp2;go_ret;exact ⟨_,rfl,Kd.R_nil _ _ _ _ _,Below.refl _ _⟩
 | some ad =>
  have HR0:=Aside0.mk hr0;have HB:=Aside0.mk (Below.refl w.heap.size w);clear hr0 hc0;have Hb:=Lib.hid hb;clear hb;go_enter Tryz.func68,Tryz.ntmps68;(go_wp2_with (first | ((with_reducible refine gate_dst (N:=5) rfl ?_);refine Kd.R_lit (Kd.int .i64) _ 3 ?hg (N:=5) ?hd (xs:=([]:List Int)) (inner:=[]) (ok:=fun _=>True) (okp:=fun _=>True) ?hr ?hp (fun _ hk=>hk) trivial (Below.refl _ _) (Nat.le_refl _) (by simp) ?_;(case hd=>rfl);(case hg=>rfl);(case hr=>first | (go_simp;done) | (go_simp;rfl));(case hp=>exact Reps.none _ _);intro v1 w1 ho_ hb_ hg_ hnew_;have n0_:=Aside0.mk (Kd.R_lower ho_ (below_size bel_));have n1_:=Aside0.mk (below_step bel_ hb_);clear HB;have HO1:=n0_;have HB:=n1_;clear n0_ n1_;clear hb_ ho_ hg_ hnew_) | ((with_reducible refine gate_builtin (b := .append) (xs:=#[.tmp 5, .tmp 6]) rfl ?_);at_builtin;refine Kd.R_append_rows (Kd.int .i64) (w0:=w) w.heap.size rfl (.tmp 5) (.tmp 6) 72 3 (.int .i64 0) 8 rfl Tryz.underlying72 info3 rfl (by decide) (by omega) v1 [] l0 _ _ _ (fun _=>True) (fun _=>False) rfl rfl ?aO ?aR (fun _ _ h=>h) (fun _ h=>h.elim) ?aF ?aB ?aS ?aL ?_;(case aR=>repeat (first | exact (Kd.C_below HR0.out HB.out) | (with_reducible refine Kd.C_alloc ?_ _) | (with_reducible refine Kd.C_drewN ?_ _) | (with_reducible refine Kd.C_drew ?_)));(case aB=>exact bel_);(case aF=>exact (fun _ _=>trivial));(case aO=>exact (pR_ HO1.out));(case aS=>exact (below_size bel_));(case aL=>(have:=Hb.out;simp;omega));intro v2 w2 ho_ hb_ hg_ hat_;have n0_:=Aside0.mk (hb_);have n1_:=Aside0.mk (ho_);clear HB;clear HO1;have HB:=n0_;have HO2:=n1_;clear n0_ n1_;clear ho_ hb_ hg_ hat_)));go_ret;exact ⟨_,rfl,HO2.out,HB.out⟩
/-- A pair's block: the lists, the Once (done, its lock), the steps, how many. -/
def pairCells (sa sb st:Value) (d long:Int):Array Value:=#[sa,sb, .int .u32 d, .int .i32 0, .int .u32 0,st, .int .i64 long]
/-- g is the block of a pair of the lists a and b, made since base; reckoned or not. -/
def IsPair (W:World) (base g:Nat) (a b:List Int):Prop :=
  base≤g ∧ ∃ sa sb st d long,W.heap[g]? = some (.cells (pairCells sa sb st d long) 119 (0,0))∧Kd.R (Kd.int .i64) 3 W base (fun k=>k≠g) sa a∧Kd.R (Kd.int .i64) 3 W base (fun k=>k≠g) sb b∧a.length≤2000∧b.length≤2000 ∧
    ((d=0∧st = .slice none 0 0∧long=0)∨(d=1∧Kd.R (Kd.int .u8) 5 W base (fun k=>k≠g) st (stepsOf a b)∧long=lcsL a b))
set_option maxHeartbeats 4000000 in
set_option maxRecDepth 100000 in
theorem lcs_New_ok (A0:Option Addr) (c0:Nat) (l0:List Int) (A1:Option Addr) (c1:Nat) (l1:List Int) (w:World) (hr0:Kd.C (Kd.int .i64) w A0 l0.length l0) (hc0:l0.length≤c0) (hr1:Kd.C (Kd.int .i64) w A1 l1.length l1) (hc1:l1.length≤c1) (h0:l0.length≤2000) (h1:l1.length≤2000) :
    Calls Tryz.prog 36 #[.slice A0 l0.length c0, .slice A1 l1.length c1] w fun e w' => ∃ g:Nat,e = .returned (.tuple #[.pointer (some ⟨g,0,none⟩), .int .i64 0])∧IsPair w' w.heap.size g l0 l1∧Below w.heap.size w w':=by
 have HR0:=Aside0.mk hr0;have HC0:=Aside0.mk hc0;have HR1:=Aside0.mk hr1;have HC1:=Aside0.mk hc1;clear hr0 hc0 hr1 hc1;have d1:decide ((2000:Int) < (l0.length:Int))=false:=decide_eq_false (by omega);have d2:decide (2000 < l0.length)=false:=decide_eq_false (by omega);have d3:decide ((2000:Int) < (l1.length:Int))=false:=decide_eq_false (by omega);have d4:decide (2000 < l1.length)=false:=decide_eq_false (by omega);go_enter Tryz.func36,Tryz.ntmps36;(go_wp2_with fail);refine (slices_Clone_int.calls A0 c0 l0 _ HR0.out HC0.out (by omega)).mono ?_;rintro e w1 ⟨v1,rfl,ho1,hb1⟩;obtain ⟨Av1,cv1,rfl⟩:=Kd.R_slice ho1;have HO1:=Aside0.mk ho1;have HB1:=Aside0.mk hb1;clear ho1 hb1;(go_wp2_with fail);refine (slices_Clone_int.calls A1 c1 l1 _ (Kd.C_below HR1.out HB1.out) HC1.out (by omega)).mono ?_;rintro e w2 ⟨v2,rfl,ho2,hb2⟩;obtain ⟨Av2,cv2,rfl⟩:=Kd.R_slice ho2;have HO2:=Aside0.mk ho2;have HB2:=Aside0.mk hb2;clear ho2 hb2;go_wp2;go_ret2;have hB:Below w.heap.size w w2:=below_step HB1.out HB2.out;have ho1:=Kd.R_mono (Kd.R_bound (Kd.R_below HO1.out HB2.out)) (ok':=fun k=>k≠w2.heap.size) (fun k hk=>by have:=hk.2.2.1;omega);have ho2:=Kd.R_mono (Kd.R_bound (Kd.R_lower HO2.out HB1.out.size)) (ok':=fun k=>k≠w2.heap.size) (fun k hk=>by have:=hk.2.2.1;omega);refine ⟨w2.heap.size,rfl,⟨hB.size,_,_,_,_,_,blk_new _ _,Kd.R_alloc ho1 _,Kd.R_alloc ho2 _,h0,h1, .inl ⟨rfl,rfl,rfl⟩⟩,below_alloc hB _⟩
end Go.Proofs.YtbbhdbeaikclcaaGreat.X
namespace Go.Proofs.YtbbhdbeaikclcaaGreat.X
open Go.RowKit Go.Proofs.YtbbhdbeaikclcaaGreatW.PrintWords Go.Deep
/-- No part of it is larger than memory. -/
def Light {H:Type} (P:Program) (t:TypeId) (d:DataW H):Prop := ∀ n ∈ d.weights P t,n≤140737488351232
/-- Whatever reads as data of type t, and is light, has cells of the kind d, and is good. -/
def Opens {α:Type} (P:Program) (t:TypeId) (d:Kd α) (good:α→Prop):Prop :=
  ∀ {H:Type} (enc:TypeId × Value→H) (w:World) (fuel:Nat) (cs:List Value) (x:DataW H × List MemPlace),
    DataW.trod enc P w 0 (fun _=>true) true fuel t cs=some x→Light P t x.1 → ∃ y,d.K w y cs∧good y
theorem opens_string {P:Program} {t:TypeId} (ht:P.underlying t=some .string):Opens P t Kd.string (fun s=>s.size≤140737488351232):=by
 intro H enc w fuel cs x h hl;obtain ⟨s,rfl,rfl,hs⟩:=DataW.trod_string ht h;refine ⟨s,rfl,?_⟩;have:=hl s.data.toList.length (by simp [DataW.weights]);simpa using this
theorem mem_weightsAll {H:Type} {P:Program} {e:TypeId} {n:Nat} : ∀ {l:List (DataW H)} {d:DataW H},d ∈ l→n ∈ d.weights P e→n ∈ DataW.weightsAll P e l
 | d0 :: l,d,h,hn=>by
  simp only [DataW.weightsAll,List.mem_append]
  rcases List.mem_cons.1 h with rfl | h
  (· exact .inl hn);(· exact .inr (mem_weightsAll h hn))
theorem pick_list {α:Type} {Q:Nat→α→Prop} : ∀ n:Nat,(∀ i,i < n → ∃ y,Q i y) → ∃ ys:List α,ys.length=n ∧ ∀ (i:Nat) (y:α),ys[i]? = some y→Q i y
 | 0,_=>⟨[],rfl,fun i y h=>by simp at h⟩
 | n+1,h=>by
  obtain ⟨ys,hl,hq⟩:=pick_list n (fun i hi=>h i (by omega));obtain ⟨y,hy⟩:=h n (by omega);refine ⟨ys ++ [y],by simp [hl],fun i z hz=>?_⟩
  rcases Nat.lt_or_ge i ys.length with hi | hi
  (· (rw [List.getElem?_append_left hi] at hz);exact hq i z hz)
  ·
   have hi':i=n:=by
    have:=(List.getElem?_eq_some_iff.1 hz).1;(simp at this);omega
   subst hi';(rw [List.getElem?_append_right hi,hl] at hz);(simp at hz);(exact hz ▸ hy)
theorem opens_slice {α:Type} {P:Program} {t e:TypeId} {d:Kd α} {good:α→Prop} (ht:P.underlying t=some (.slice e)) (hc:P.cellsOf e=d.sz) {B:Nat} (hB:P.bytesOf e=B) (hd:Opens P e d good) :
    Opens P t (Kd.slice e d) (fun l=>l.length * B≤140737488351232 ∧ ∀ y ∈ l,good y):=by
 intro H enc w fuel cs x h hw
 rcases open_slice ht h with ⟨rfl,_⟩ | ⟨a,len,cap,m,n,D,Pl,rfl,_,hl,hm,hmm,rfl,hx⟩
 (· exact ⟨[],⟨none,0,rfl,Nat.le_refl _,rfl,by simp,fun h=>absurd h (by simp)⟩,by simp,by simp⟩)
 ·
  have hle:len≤m:=by
   rw [hmm];simp;exact hl
  have hD : ∀ i,i < len→Light P e (D i):=fun i hi n hn=>hw n (by
   simp only [DataW.weights,ht]
   exact List.mem_cons_of_mem _ (List.mem_append_left _ (mem_weightsAll (List.mem_map.2 ⟨i,List.mem_range.2 hi,rfl⟩) hn)))
  have hS:len * B≤140737488351232:=by
   have z:=hw _ (by simp only [DataW.weights,ht];exact List.mem_cons_self);(rw [hB] at z);(simp only [List.length_map,List.length_range] at z);exact Nat.le_trans (Nat.mul_le_mul_right _ (Nat.le_add_right _ _)) z
  obtain ⟨ys,hyl,hyq⟩:=pick_list (Q:=fun i y => ∃ c,w.cells? 0 (a.add (i * d.sz)) d.sz=some c∧d.K w y c∧good y) len (fun i hi=>by
   obtain ⟨c,h1,h2⟩:=hx i (by omega);obtain ⟨y,h3,h4⟩:=hd enc w n c _ h2 (hD i hi);(rw [hc] at h1)
   exact ⟨y,c,h1,h3,h4⟩)
  refine ⟨ys,⟨some a,cap,by rw [hyl],by omega,rfl,?_,fun _=>⟨a,rfl,fun j p hp=>?_⟩⟩,?_,fun y hy=>?_⟩;(· (unfold maxLen at hm;omega));(· obtain ⟨c,h1,h3,_⟩:=hyq j p hp;obtain ⟨_,hlen,hcell⟩:=World.cells?_some h1;refine ⟨c,hlen,h3,fun i u hu=>?_⟩;(have hi:i < d.sz:=by rw [← hlen];exact (List.getElem?_eq_some_iff.1 hu).1);rw [← Go.Deep.add_add,hcell i hi,hu]);(· (rw [hyl];exact hS));(· obtain ⟨j,hj,rfl⟩:=List.mem_iff_getElem.1 hy;obtain ⟨_,_,_,hg⟩:=hyq j _ (List.getElem?_eq_getElem hj);exact hg)
/-- An argument that is a slice: its value, what it reads as. -/
theorem Opens.slice_arg {α:Type} {P:Program} {t e:TypeId} {d:Kd α} {g:List α→Prop} (h:Opens P t (Kd.slice e d) g) {H:Type} {enc:TypeId × Value→H} {w:World} {v:Value} {x:DataW H} {ps:List MemPlace}
    (hv : ∃ a len cap,v = .slice a len cap) (hw:Light P t x) (ht:DataW.Trod enc P w 0 (fun _=>true) true t v x ps) :
    ∃ A c l,v = .slice A l.length c∧Kd.C d w A l.length l∧l.length≤c∧g l:=by
 obtain ⟨fuel,hf⟩:=ht;obtain ⟨l,⟨A,c,hcs,hlc,hC⟩,hg⟩:=h enc w fuel _ _ hf hw;obtain ⟨a,len,cap,rfl⟩:=hv;(simp [Value.cells] at hcs);obtain ⟨rfl,rfl,rfl⟩:=hcs;exact ⟨_,_,l,rfl,hC,hlc,hg⟩
/-- A row's datum is light. -/
theorem light_of {H:Type} {P:Program} {ts:List TypeId} {ds:List (DataW H)} (hsz:(DataW.weightsEach P ts ds).all (· ≤ reachBytes)=true) {j:Nat} {t:TypeId} {d:DataW H} (ht:ts[j]? = some t) (hd:ds[j]? = some d):Light P t d:=by
 intro n hn;have:=List.all_eq_true.1 hsz _ (DataW.weights_mem_each ht hd n hn);exact of_decide_eq_true this
end Go.Proofs.YtbbhdbeaikclcaaGreat.X
namespace Go.Proofs.YtbbhdbeaikclcaaGreat.X
open Go.RowKit
/-- The iterator's side: whatever the rounds keep (B: of what is no cells), it goes from s0 to a state that is S. -/
def IterGoes {σ α:Type} (F:Fence) (n:Nat) (P:Program) (gf:Nat) (lb:Array Value) (encs:α→Array Value) (I:σ→World→Prop) (ok:σ→α→Prop) (step:σ→α→σ) (S:σ→Prop) (s0:σ):Prop :=
  ∀ (l:Nat) (B:World→Prop),(∀ W W',B W→KeepsOthers W W'→B W') →
    (∀ s x W,I s W→B W→ok s x→YieldAt F (n - 1) P l (encs x) W fun e W'=>e = .returned (.bool true)∧I (step s x) W'∧B W') →
    ∀ W,I s0 W→B W→CallsIn F n P gf (#[.func (.yield l) #[] #[]] ++ lb) W fun e W'=>(∃ v,e = .returned v) ∧ ∃ s,S s∧I s W'∧B W'
end Go.Proofs.YtbbhdbeaikclcaaGreat.X
namespace Go.Proofs.YtbbhdbeaikclcaaGreat.X
open Go.RowKit Go.Proofs.YtbbhdbeaikclcaaGreatW.PrintWords Go.Proofs.YtbbhdbeaikclcaaGreatW.PrintLast Go.Proofs.YtbbhdbeaikclcaaGreatW.PrintMore
open Go.Maps
/-- A text as a map's key. -/
def keyT (s:ByteArray):Lit := .string s.data.toList
theorem keyT_inj {a b:ByteArray} (h:keyT a=keyT b):a=b:=by
 have h:=Lit.string.inj h;exact ByteArray.ext (Array.toList_inj.1 h)
/-- What a map tells of a table of texts. -/
def Tells (D:DataW Unit) (t:List ByteArray):Prop :=
  IsMap D ∧ ∀ s:ByteArray,s.size≤maxLen→Maps.has D (keyT s)=decide (place s t < t.length)∧(place s t < t.length→D.atKey (keyT s) (.lit (.int .i64 0)) = .lit (.int .i64 (place s t)))
/-- A table of texts, at block g. -/
def TableIn (W:World) (B g:Nat) (t:List ByteArray):Prop :=
  ∃ gm tv D,W.heap[g]? = some (.cells #[.map (some gm),tv, .int .i64 (t.length:Int)] 153 (0,0))∧B≤g∧B≤gm∧W.ownsMap Tryz.prog 9 (plainElem Tryz.prog 3) gm t.length D∧Aside0 (Tells D t) ∧
    Kd.R Kd.string 9 W B (fun _=>True) tv t
/-- All blocks of cells but those of tables, and of texts, stay. -/
def IdKeeps (W W':World):Prop:=W.heap.size≤W'.heap.size ∧ ∀ (k:Nat) (cells:Array Value) (q:TypeId) (fr:Nat × Nat),W.heap[k]? = some (.cells cells q fr)→q≠153→q≠9→W'.heap[k]? = some (.cells cells q fr)
theorem IdKeeps.refl (W:World):IdKeeps W W:=⟨Nat.le_refl _,fun _ _ _ _ h _ _=>h⟩
theorem IdKeeps.trans {W W1 W2:World} (h:IdKeeps W W1) (k:IdKeeps W1 W2):IdKeeps W W2:=⟨Nat.le_trans h.1 k.1,fun i c q fr hi h1 h2=>k.2 i c q fr (h.2 i c q fr hi h1 h2) h1 h2⟩
theorem IdKeeps.below {W W1:World} (h:Below W.heap.size W W1):IdKeeps W W1:=⟨h.size,fun i c q fr hi _ _=>(h.block i (Array.getElem?_eq_some_iff.1 hi).1).trans hi⟩
theorem wf_len {n:Nat} (h:n≤140737488355328):(Lit.int .i64 (n:Int)).wf=true:=by
 have e1:IntKind.i64.min = -9223372036854775808:=rfl;have e2:IntKind.i64.max=9223372036854775807:=rfl;simp [Lit.wf,go_sem];omega
theorem intern_New (w:World):Calls Tryz.prog 66 #[] w fun e w' => ∃ g,e = .returned (.pointer (some ⟨g,0,none⟩))∧Aside0 (TableIn w' w.heap.size g [])∧Aside0 (Below w.heap.size w w'):=by
 have hmm := @run_makeMap Tryz.prog;go_enter Tryz.func66,Tryz.ntmps66;go_wp2;go_ret;have hm:=World.ownsMap_made (H:=Unit) w Tryz.prog 9 (plainElem Tryz.prog 3);obtain ⟨es,cl,hb,hr⟩:=hm;refine ⟨_,rfl,⟨⟨w.heap.size, .slice none 0 0, .map [],?_,?_,Nat.le_refl _,⟨es,cl,?_,hr⟩,⟨isMap_empty,fun s hs=>⟨rfl,fun h=>by simp [place] at h⟩⟩,Kd.R_nil _ _ _ _ _⟩⟩,⟨((Below.refl _ w).alloc (Nat.le_refl _) _).alloc (by simp) _⟩⟩;(· have:=World.alloc_heap_new (w.alloc (.map #[] 0)) (.cells #[.map (some w.heap.size), .slice none 0 0, .int .i64 0] 153);simpa using this);(· simp);(· exact (Below.heap_alloc _ _ _ (by simp)).trans hb)
theorem Tells.put {D:DataW Unit} {t:List ByteArray} {s:ByteArray} (h:Tells D t) (hs : ¬ place s t < t.length) (hk:WideAt.IsKeyLit (keyT s)):Tells (D.put (keyT s) (.lit (.int .i64 (t.length:Int)))) (t ++ [s]):=by
 obtain ⟨hm,hf⟩:=h;refine ⟨hm.put _ _,fun x hx=>?_⟩
 by_cases e:x=s
 (· subst e;have hp:=place_new x [] hs;rw [has_put_same hm hk,atKey_put_same hm hk,hp];simp)
 ·
  (have hne:keyT x≠keyT s:=fun h=>e (keyT_inj h));obtain ⟨h1,h2⟩:=hf x hx;rw [has_put_other hne,atKey_put_other hne,h1]
  by_cases hp:place x t < t.length
  (· rw [place_append x [s] hp];refine ⟨?_,fun _=>h2 hp⟩;(simp [hp];omega))
  ·
   have : ¬ x ∈ t ++ [s]:=by
    rw [List.mem_append,place_mem];rintro (h | h);(· exact hp h);(· exact e (List.mem_singleton.1 h))
   (rw [place_mem] at this);exact ⟨by rw [decide_eq_false hp,decide_eq_false this],fun h=>absurd h this⟩
set_option maxRecDepth 100000 in
set_option maxHeartbeats 1600000 in
theorem atomic_Add (g:Nat) (n:Int) (w:World) (hc:w.cell? ⟨g,2,none⟩=some (.int .i64 n)) (hf:w.frozen? ⟨g,2,none⟩=false) (hn:0≤n) (hn2:n < 1000000000000000) :
    Calls Tryz.prog 95 #[.pointer (some ⟨g,2,none⟩), .int .i64 1] w fun e w'=>e = .returned (.int .i64 (n+1))∧w'=w.setCell ⟨g,2,none⟩ (.int .i64 (n+1)):=by
 have hs:(Op.intArith .add .i64 n 1).run Tryz.prog w = .ok (.int .i64 (n+1)) w:=by
  have e:IntKind.i64.wrap (n+1)=n+1:=IntWalk.i64_in _ ⟨by omega,by omega⟩;(rw [← e];rfl)
 have hx:=run_call_add (P:=Tryz.prog) Tryz.func108 (by kernel_rfl) (by kernel_rfl) (by kernel_rfl) .i64 (by kernel_rfl) hc hf hs;go_enter Tryz.func95,Tryz.ntmps95;go_wp2;go_ret;exact ⟨rfl,rfl⟩
theorem Kd.R_map {W W1:World} {b e:Nat} {α:Type} {d:Kd α} {ok:Nat→Prop} {v:Value} {xs:List α} (h:Kd.R d e W b ok v xs) (hb : ∀ (k:Nat) (cells:Array Value) (q:TypeId) (fr:Nat × Nat),W.heap[k]? = some (.cells cells q fr)→q ∈ e :: d.E→W1.heap[k]? = W.heap[k]?):Kd.R d e W1 b ok v xs:=by
 refine Kd.R_mono (Kd.R_move (Kd.R_bound h) (fun k hk=>?_)) (fun k hk=>hk.1);obtain ⟨_,_,_,q,hq,cells,hc⟩:=hk;exact hb k cells q _ hc hq
set_option maxRecDepth 100000 in
set_option maxHeartbeats 4000000 in
/-- A text's number; the table then. -/
theorem table_Id (g B:Nat) (t:List ByteArray) (s:ByteArray) (w:World) (h:TableIn w B g t) (hs:s.size≤maxLen) (ht:t.length≤1000000000) (hB:B≤w.heap.size) :
    Calls Tryz.prog 67 #[.pointer (some ⟨g,0,none⟩), .string s] w fun e w'=>e = .returned (.int .i64 (place s t))∧Aside0 (TableIn w' B g (addT t s))∧Aside0 (Below B w w')∧Aside0 (IdKeeps w w'):=by
 have H:=Aside0.mk h;obtain ⟨gm,tv,D,hb,hg,hgm,hown,hT,hR⟩:=h;have hlt:=blk_lt hb;have hkey:keyOf Tryz.prog 9 (.string s)=some (keyT s)   := WideMaps.keyOf_string_mk Tryz.underlying9 hs;(have zE : ∀ w:World,(zeroValue 3).run Tryz.prog w = .ok (.int .i64 0) w:=fun w=>by kernel_rfl);have c0:w.cell? ⟨g,0,none⟩=some (.map (some gm)):=cell_blk hb rfl;obtain ⟨hD,hTf⟩:=hT.out;obtain ⟨h1,h2⟩:=hTf s hs;have HD:=Aside0.mk hD;have HB:=Aside0.mk hb;have HOWN:=Aside0.mk hown;have HR:=Aside0.mk hR;clear hD hTf hb hown hR
 by_cases hp:place s t < t.length
 (· have h2':=h2 hp;(rw [decide_eq_true hp] at h1);have H1:=Aside0.mk h1;have H2:=Aside0.mk h2';clear h1 h2 h2';go_enter Tryz.func67,Tryz.ntmps67;(go_wp2_with (at_lookup;refine wpList_lookup_own_ok_int _ rfl _ _ 148 rfl 9 3 .i64 (string_keyed Tryz.underlying9) Tryz.underlying148 Tryz.underlying3 (zE _) gm t.length D rfl HOWN.out _ _ rfl hkey ?_;intro c hat hwc;rw [H1.out];rw [H2.out] at hat;obtain rfl:c=(place s t:Int):=by (injection hat with hat;injection hat with _ hat;exact hat.symm)));go_ret;rw [addT,if_pos hp];exact ⟨rfl,H,⟨Below.refl _ _⟩,⟨IdKeeps.refl _⟩⟩)
 ·
  (rw [decide_eq_false hp] at h1);have H1:=Aside0.mk h1;clear h1 h2;have hpl:=place_not hp;have z0:D.atKey (keyT s) (.lit (.int .i64 0)) = .lit (.int .i64 0):=atKey_of_not_has H1.out _;have Z0:=Aside0.mk z0;clear z0;have c2:w.cell? ⟨g,2,none⟩=some (.int .i64 (t.length:Int)):=cell_blk HB.out rfl;have f2:w.frozen? ⟨g,2,none⟩=false:=frozen_of_row _ _ _ _ _ HB.out;rw [hpl];go_enter Tryz.func67,Tryz.ntmps67;(go_wp2_with (at_lookup;refine wpList_lookup_own_ok_int _ rfl _ _ 148 rfl 9 3 .i64 (string_keyed Tryz.underlying9) Tryz.underlying148 Tryz.underlying3 (zE _) gm t.length D rfl HOWN.out _ _ rfl hkey ?_;intro c hat hwc;rw [H1.out];rw [Z0.out] at hat;obtain rfl:c=(0:Int):=by (injection hat with hat;injection hat with _ hat;exact hat.symm)));refine (atomic_Add g (t.length:Int) _ c2 f2 (by omega) (by omega)).mono ?_;rintro e w1 ⟨rfl,rfl⟩
  have hne:gm≠g:=by
   rintro rfl;obtain ⟨es,cl,hm,_⟩:=HOWN.out;(rw [HB.out] at hm;cases hm)
  obtain ⟨w1,hw1⟩ : ∃ w1,w.setCell ⟨g,2,none⟩ (.int .i64 ((t.length:Int)+1))=w1:=⟨_,rfl⟩;have HW1:=Aside0.mk hw1;rw [hw1];(have hb1:w1.heap[g]? = some (.cells #[.map (some gm),tv, .int .i64 ((t.length:Int)+1)] 153 (0,0)):=by rw [← hw1];exact heap_set_same HB.out _)
  have ho1:w1.ownsMap Tryz.prog 9 (plainElem Tryz.prog 3) gm t.length D:=by
   obtain ⟨es,cl,hm,r⟩:=HOWN.out;exact ⟨es,cl,by rw [← hw1,heap_set_other hne];exact hm,r⟩
  (have hr1:Kd.R Kd.string 9 w1 B (fun _=>True) tv t:=by rw [← hw1];exact Kd.R_set HR.out HB.out (by decide) _ _);(have hbl1:Below B w w1:=by rw [← hw1];exact (Below.refl _ _).setCell (p:=⟨g,2,none⟩) hg _)
  have hk1:IdKeeps w w1:=⟨by rw [← hw1];simp [World.setCell],fun k cells q fr hk h1 h2=>by
   (rw [← hw1,heap_set_other];· exact hk)
   ·
    rintro rfl;rw [HB.out] at hk;cases hk;exact h1 rfl⟩
  clear hw1;have c10:w1.cell? ⟨g,0,none⟩=some (.map (some gm)):=cell_blk hb1 rfl;have HB1:=Aside0.mk hb1;have HO1:=Aside0.mk ho1;have HR1:=Aside0.mk hr1;have HL1:=Aside0.mk hbl1;have HK1:=Aside0.mk hk1;clear hb1 ho1 hr1 hbl1 hk1;(have e1:wrap64 ((t.length:Int)+1 - 1)=(t.length:Int):=by unfold wrap64;omega);(have e2:(t.length:Int)+1 - 1=(t.length:Int):=by omega);clear c0 c2 f2;(go_wp2_with (first | (at_mapUpdate;(refine wpList_mapUpdate_own _ rfl _ _ _ 148 rfl 9 3 (string_keyed Tryz.underlying9) Tryz.underlying148 _ gm t.length D rfl HO1.out (by unfold maxLen;omega) _ _ _ rfl rfl hkey (.lit (.int .i64 (t.length:Int))) [] (plainElem_int Tryz.underlying3 (wf_len (by omega))) ?_;intro w2 hown2 hgrow2;have hb2:=(hgrow2.block g (blk_lt HB1.out) (fun e=>hne (Option.some.inj e).symm)).trans HB1.out;have hr2:Kd.R Kd.string 9 w2 B (fun _=>True) tv t:=Kd.R_map HR1.out (fun k cells q fr hk _=>hgrow2.block k (Array.getElem?_eq_some_iff.1 hk).1 (fun e=>by obtain ⟨es,cl,hm,_⟩:=HO1.out;rw [Option.some.inj e,hm] at hk;cases hk));have c21:w2.cell? ⟨g,1,none⟩=some tv:=cell_blk hb2 rfl;obtain ⟨Av,cv,hev⟩:=Kd.R_slice hr2;subst hev;have HB2:=Aside0.mk hb2;have HR2:=Aside0.mk hr2;have HO2:=Aside0.mk hown2;have HG2:=Aside0.mk hgrow2;clear hb2 hr2 hown2 hgrow2)) | (at_builtin;(refine Kd.R_append Kd.string (w0:=w2) B rfl (.tmp 35) (.tmp 37) 22 9 (.string ByteArray.empty) 16 rfl Tryz.underlying22 info9 rfl (by decide) (by decide) _ t s [.string s] (fun _=>True) (fun _=>False) rfl rfl rfl (fun _ h=>h.elim) (fun _ _=>trivial) HR2.out (Below.refl _ _) (Nat.le_trans hB (Nat.le_trans HK1.out.1 HG2.out.size)) (by omega) ?_;intro v3 w3 hr3 hbl3 hg3 hat3;have hgn:some g≠(Value.slice Av t.length cv).ownBlock:=Kd.R_ne HR2.out HB2.out (by decide);have hb3:=(hg3.block g (blk_lt HB2.out) hgn).trans HB2.out;obtain ⟨A3,c3,hev3⟩:=Kd.R_slice hr3;subst hev3;have c31:=cell_blk (j:=1) hb3 rfl;have f31:w3.frozen? ⟨g,1,none⟩=false:=frozen_of_row _ _ _ _ _ hb3;have HR3:=Aside0.mk hr3;have HB3:=Aside0.mk hb3;have HL3:=Aside0.mk hbl3;have HG3:Aside0 (w2.grownBy w3 (Value.slice Av t.length cv).ownBlock):=Aside0.mk hg3;clear hr3 hb3 hbl3 hg3 hat3))));go_ret;(have hadd:addT t s=t ++ [s]:=by rw [addT,if_neg hp]);(have hlen:(t ++ [s]).length=t.length+1:=by simp);rw [hadd]
  have hgm2:(Value.slice Av t.length cv).ownBlock≠some gm:=by
   intro e;obtain ⟨es,cl,hm,_⟩:=HO2.out;obtain ⟨cells,hc⟩:=Kd.R_typed HR2.out gm e;(rw [hm] at hc;cases hc)
  have hB2:B≤w2.heap.size:=Nat.le_trans hB (Nat.le_trans HK1.out.1 HG2.out.size);have HR3':=HR3.out;(rw [hlen] at HR3');refine ⟨rfl,⟨⟨gm, .slice A3 (t.length+1) c3,D.put (keyT s) (.lit (.int .i64 (t.length:Int))),?_,hg,hgm,?_,⟨Tells.put hT.out hp trivial⟩,?_⟩⟩,⟨?_⟩,⟨?_⟩⟩;(· (rw [heap_set_same HB3.out,hlen];rfl))
  ·
   obtain ⟨es,cl,hm,r⟩:=HO2.out;refine ⟨es,cl,?_,by rw [hlen];exact r⟩
   rw [heap_set_other hne,HG3.out.block gm (by
    rcases Nat.lt_or_ge gm w2.heap.size with h | h
    · exact h
    · rw [Array.getElem?_eq_none h] at hm;cases hm) (fun e=>hgm2 e.symm)]
   exact hm
  (· exact Kd.R_set HR3' HB3.out (by decide) _ _);(· exact (((HL1.out.grown HG2.out (Nat.le_trans hB HK1.out.1) (fun j hj=>by rw [← Option.some.inj hj];exact hgm)).trans HL3.out).setCell (p:=⟨g,1,none⟩) hg _))
  ·
   refine ⟨?_,fun k cells q fr hk h1 h2=>?_⟩;(· (have a1:=HK1.out.1;have a2:=HG2.out.size;have a3:=HG3.out.size);(simp [World.setCell];omega))
   ·
    have k1:=HK1.out.2 k cells q fr hk h1 h2
    have k2:=(HG2.out.block k (Array.getElem?_eq_some_iff.1 k1).1 (fun e=>by
     obtain ⟨es,cl,hm,_⟩:=HO1.out
     rw [Option.some.inj e,hm] at k1;cases k1)).trans k1
    have k3:=(HG3.out.block k (Array.getElem?_eq_some_iff.1 k2).1 (fun e=>by
     obtain ⟨cells',hc⟩:=Kd.R_typed HR2.out k e.symm
     rw [k2] at hc;cases hc;exact h2 rfl)).trans k2
    rw [heap_set_other];(· exact k3);(· rintro rfl;(rw [HB3.out] at k3;cases k3;exact h1 rfl))
end Go.Proofs.YtbbhdbeaikclcaaGreat.X
