/-
  Parts of one proof, one behind the other: XLn5, XHr6, XHr7, XT1, XT2, XHwK, XHwP, XHwN.
-/
import Derived.Test.YthcnfflhejogfaaDoorBHunkNone6
set_option linter.unusedVariables false
set_option linter.unusedSimpArgs false
set_option maxRecDepth 100000
set_option maxHeartbeats 8000000
namespace Go.Proofs.YthcnfflhejogfaaDoor.X
open Go.RowKit Go.Proofs.YthcnfflhejogfaaDoorW.PrintWords Go.Proofs.YthcnfflhejogfaaDoorW.PrintLast Go.Proofs.YthcnfflhejogfaaDoorW.PrintMore
attribute [local go_sem] max2_int min2_int max_two min_two max_three min_three max_four min_four
def sennitlaw21_HunkNone.l0:Nat→List ByteArray→Bool→List (S57)→List (S48)→Int→List (S48)→Int→Bool→Int→Option (Bool)
  | 0,_,_,_,_,_,_,_,_,_=>none
  | k+1,x0,x5,x6,x8,x9,x10,x11,x12,x13=>if x13 < (x6.length:Int) then (if x12=true then (sennitlaw21_HunkNone.l0 k x0 x5 x6 x8 x9 x10 x11 true (wrap64 (x13+1))) else (if 0≤x13 then ((sennitref21_Marked.f k ((rd_T57 x6 x13).f0) ((rd_T57 x6 x13).f1)).bind fun t228=>(sennitlaw21_HunkNone.l0 k x0 x5 x6 x8 x9 x10 x11 t228 (wrap64 (x13+1)))) else (none))) else (if (x8.length:Int)=1 then (if 0 < (x8.length:Int) then ((sennitref19_Same.f k ((rd_T48 x8 0).f2) x6).bind fun t230=>(if t230=true then (if x5=true then (if x9=0 then (if x11=1 then (if (x10.length:Int)=0 then (if x12=true then (if ((rd_T48 x8 0).f1.f1)=(x0.length:Int) then (some true) else (some false)) else (some ((x8.length:Int) == 0))) else (some false)) else (some false)) else (some false)) else (some false)) else (if x5=true then (if x9=0 then (if x11=1 then (if (x10.length:Int)=0 then (if x12=true then (some false) else (some ((x8.length:Int) == 0))) else (some false)) else (some false)) else (some false)) else (some false)))) else (none)) else (if x5=true then (if x9=0 then (if x11=1 then (if (x10.length:Int)=0 then (if x12=true then (some false) else (some ((x8.length:Int) == 0))) else (some false)) else (some false)) else (some false)) else (some false)))
def sennitlaw21_HunkNone.f (k:Nat) (l0:List ByteArray) (l1:List (List ByteArray)):Option (Bool):=(sennitlaw21_awake.f k).bind fun t213=>((sennitref20_May.f k l0 l1).bind fun t214=>(if t214=true then ((sennitref20_Table.f k l0 l1).bind fun bt215=>((hunk_Hunks.f bt215.1 1000 false).bind fun bt219=>((hunk_Hunks.f bt215.1 1001 false).bind fun bt223=>(sennitlaw21_HunkNone.l0 k l0 t213 bt215.1 bt219.1 bt219.2 bt223.1 bt223.2 false 0)))) else (some t213)))
theorem sennitlaw21_HunkNone.calls (k:Nat) (A0:Option Addr) (c0:Nat) (l0:List ByteArray) (A1:Option Addr) (c1:Nat) (l1:List (List ByteArray)) (r:Bool) (w:World) (hr0:Kd.C Kd.string w A0 l0.length l0) (hc0:l0.length≤c0) (hr1:Kd.C (Kd.slice 9 Kd.string) w A1 l1.length l1) (hc1:l1.length≤c1) (h:sennitlaw21_HunkNone.f k l0 l1=some r) (HMX:Aside0 (MaxAt w):=by exact⟨MaxAt.go HMX bel_⟩) :
    Calls Tryd.prog 13 #[.slice A0 l0.length c0, .slice A1 l1.length c1] w fun e w'=>e = .returned (.bool r)∧Below w.heap.size w w':=by
 have hu57:=Tryd.underlying57;have HR0:=Aside0.mk hr0;have HC0:=Aside0.mk hc0;clear hr0 hc0;have HR1:=Aside0.mk hr1;have HC1:=Aside0.mk hc1;clear hr1 hc1;have HB:=Aside0.mk (Below.refl w.heap.size w);have H:=h;(rw[sennitlaw21_HunkNone.f] at H);clear h;replace H:=Option.bind_eq_some_iff.mp H;obtain⟨t213,A30,H⟩:=H;(try dsimp only at H);have A3:=Aside0.mk A30;clear A30;replace H:=Option.bind_eq_some_iff.mp H;obtain⟨t214,A40,H⟩:=H;(try dsimp only at H);have A4:=Aside0.mk A40;clear A40
 by_cases c5:t214=true
 ·
  subst c5;have H1:=H;(rw[if_pos rfl] at H1);clear H;have H:=H1;clear H1;replace H:=Option.bind_eq_some_iff.mp H;obtain⟨⟨t215,t218⟩,A60,H⟩:=H;(try dsimp only at H);have A6:=Aside0.mk A60;clear A60;replace H:=Option.bind_eq_some_iff.mp H;obtain⟨⟨t219,t222⟩,A70,H⟩:=H;(try dsimp only at H);have A7:=Aside0.mk A70;clear A70;replace H:=Option.bind_eq_some_iff.mp H;obtain⟨⟨t223,t226⟩,A80,H⟩:=H;(try dsimp only at H);have A8:=Aside0.mk A80;clear A80;have H':=Aside0.mk H;clear H;go_enter Tryd.func13,Tryd.ntmps13
  (go_wp2_with (first|((with_reducible refine gate_callee (f:=26) rfl ?_);refine goesL_ (some 15) rfl rfl Tryd.func26 (by kernel_rfl) rfl #[] rfl am_ ?_;(with_reducible refine(sennitlaw21_awake.calls k  t213 _ A3.out).mono ?_);rintro e w9 ⟨rfl,hb⟩;refine⟨_,rfl,?_⟩;replace HB:=Aside0.mk (below_step bel_ hb);(try clear hb);(try clear hb2);(try clear hk);(try clear hi))|((with_reducible refine gate_callee (f:=22) rfl ?_);refine goesL_ (some 18) rfl rfl Tryd.func22 (by kernel_rfl) rfl #[.slice A0 l0.length c0, .slice A1 l1.length c1] rfl am_ ?_;(with_reducible refine(sennitref20_May.calls k _ _ l0 _ _ l1 true _ ?side1 ?side2 ?side3 ?side4 A4.out).mono ?_);(case side1=>repeat(first|exact(Kd.C_below HR0.out HB.out)|(with_reducible refine Kd.C_alloc ?_ _)|(with_reducible refine Kd.C_drewN ?_ _)|(with_reducible refine Kd.C_drew ?_)));(case side2=>exact HC0.out);(case side3=>repeat(first|exact(Kd.C_below HR1.out HB.out)|(with_reducible refine Kd.C_alloc ?_ _)|(with_reducible refine Kd.C_drewN ?_ _)|(with_reducible refine Kd.C_drew ?_)));(case side4=>exact HC1.out);rintro e w' ⟨rfl,⟨nd,rfl⟩⟩;refine⟨_,rfl,?_⟩)|((with_reducible refine gate_callee (f:=23) rfl ?_);refine goesL_ (some 24) rfl rfl Tryd.func23 (by kernel_rfl) rfl #[.slice A0 l0.length c0, .slice A1 l1.length c1] rfl am_ ?_;(with_reducible refine(sennitref20_Table.calls k (fun k_=>k_ < w.heap.size) _ _ l0 (fun k_=>k_ < w.heap.size) _ _ l1 t215 t218 _ ?side1 ?side2 A6.out).mono ?_);(case side1=>exact Kd.V_mk HC0.out (Kd.F_below (Kd.C_F Kd.heap_string HR0.out) bel_));(case side2=>exact Kd.V_mk HC1.out (Kd.F_below (Kd.C_F (Kd.heap_slice 9 Kd.heap_string) HR1.out) bel_));rintro e w10 ⟨v216,rfl,ho0,hb⟩;refine⟨_,rfl,?_⟩;have HO217:=Aside0.mk (Kd.R_lower (Kd.R_mono (ok':=fun k_=>True) ho0 (fun _ hk_=>trivial)) (below_size bel_));replace HB:=Aside0.mk (below_step bel_ hb);(try clear hb);(try clear hb2);(try clear hk);(try clear hi);(try clear ho0);obtain⟨Ao11,co11,eo11⟩:=Kd.R_slice HO217.out;subst eo11)|((with_reducible refine gate_callee (f:=28) rfl ?_);refine goesL_ (some 29) rfl rfl Tryd.func28 (by kernel_rfl) rfl #[.slice Ao11 t215.length co11, .int .i64 1000, .bool false] rfl am_ ?_;(with_reducible refine(hunk_Hunks.calls (fun k_=>some k_=(.slice Ao11 t215.length co11:Value).ownBlock) _ _ t215 1000 false t219 t222 _ ?side1 A7.out).mono ?_);(case side1=>exact Kd.R_V (Kd.R_tight rfl (HO217.out)));rintro e w12 ⟨v220,rfl,ho0,hb⟩;refine⟨_,rfl,?_⟩;replace HO217:=Aside0.mk (Kd.R_below (pR_ HO217.out) hb);have HO221:=Aside0.mk (Kd.N_lower (Kd.N_mono (ok':=fun k_=>True) ho0 (fun k_ hk_=>trivial)) (below_size bel_));replace HB:=Aside0.mk (below_step bel_ hb);(try clear hb);(try clear hb2);(try clear hk);(try clear hi);(try clear ho0))|((with_reducible refine gate_callee (f:=28) rfl ?_);refine goesL_ (some 34) rfl rfl Tryd.func28 (by kernel_rfl) rfl #[.slice Ao11 t215.length co11, .int .i64 1001, .bool false] rfl am_ ?_;(with_reducible refine(hunk_Hunks.calls (fun k_=>some k_=(.slice Ao11 t215.length co11:Value).ownBlock) _ _ t215 1001 false t223 t226 _ ?side1 A8.out).mono ?_);(case side1=>exact Kd.R_V (Kd.R_tight rfl (Kd.R_apart' (HO217.out) (Kd.N_typed HO221.out) (by decide))));rintro e w13 ⟨v224,rfl,ho0,hb⟩;refine⟨_,rfl,?_⟩;have HO225:=Aside0.mk (Kd.N_lower (Kd.N_mono (ok':=fun k_=>some k_≠(v220:Value).ownBlock) ho0 (fun k_ hk_=>Or.elim hk_ (fun hs_=>((Kd.R_apart' (HO217.out) (Kd.N_typed HO221.out) (by decide)).1 k_ hs_.symm).2) (fun hn_=>(Kd.fresh' (Kd.N_lt (pN_ HO221.out)) k_ hn_)))) (below_size bel_));replace HO217:=Aside0.mk (Kd.R_below (pR_ HO217.out) hb);replace HO221:=Aside0.mk (Kd.N_elder' (pN_ HO221.out) (Kd.N_base (nb_ ho0)) hb);replace HB:=Aside0.mk (below_step bel_ hb);(try clear hb);(try clear hb2);(try clear hk);(try clear hi);(try clear ho0))))
  go_loopg [12,13] k (fun kq v12 v13 w' => ∃ (x12_1:Bool) (x13_1:Int),v12 = .bool x12_1∧v13 = .int .i64 x13_1∧Aside0 (sennitlaw21_HunkNone.l0 kq l0 t213 t215 t219 t222 t223 t226 x12_1 x13_1=some r)∧Aside0 (kq≤k)∧Aside0 (Kd.R k57 57 w' w.heap.size (fun _=>True) (.slice Ao11 t215.length co11) t215)∧Aside0 (Kd.N k48 48 w' w.heap.size (fun k_=>some k_≠(v224:Value).ownBlock) v220 t219)∧Aside0 (Kd.N k48 48 w' w.heap.size (fun k_=>some k_≠(v220:Value).ownBlock) v224 t223)∧Aside0 (Below w.heap.size w w'))
  (case atStart=>exact⟨(false),(0),rs_,rs_,H',⟨Nat.le_refl _⟩,⟨pR_ HO217.out⟩,⟨Kd.N_mono (pN_ HO221.out) (fun _ hk=>hk.2)⟩,⟨pN_ HO225.out⟩,⟨bel_⟩⟩)
  case round =>
   clear H';(try clear c1);(try clear c2);(try clear p2);(try clear c5);(try clear c13);obtain⟨x12_1,x13_1,rfl,rfl,HA,HK1,HO_6,HO_8,HO_10,HB⟩:=hrel
   cases gk with
   | zero=>exact absurd HA.out (by simp[sennitlaw21_HunkNone.l0])
   | succ k1 =>
    have H:=HA.out;clear HA;(simp only[sennitlaw21_HunkNone.l0] at H)
    by_cases c14:x13_1 < (t215.length:Int)
    ·
     (rw[if_pos c14] at H);have c14b0:decide (x13_1 < (t215.length:Int))=true:=decide_eq_true c14;clear c14
     by_cases c15:x12_1=true
     ·
      subst c15;have H1:=H;(rw[if_pos rfl] at H1);clear H;have H:=H1;clear H1;have H':=Aside0.mk H;clear H;go_wp2
      go_roundg k1
      (case measure=>have:=HK1.out;omega);(case rel=>exact⟨(true),(wrap64 (x13_1+1)),rs_,rs_,H',⟨by have:=HK1.out;omega⟩,⟨pR_ HO_6.out⟩,⟨pN_ HO_8.out⟩,⟨pN_ HO_10.out⟩,⟨bel_⟩⟩)
     ·
      replace c15:=Bool.eq_false_iff.mpr c15;subst c15;have H1:=H;(rw[if_neg (show ¬ (false=true) by decide)] at H1);clear H;have H:=H1;clear H1
      by_cases c16:0≤x13_1
      ·
       (rw[if_pos c16] at H);have c16b0:decide (0≤x13_1)=true:=decide_eq_true c16;clear c16;replace H:=Option.bind_eq_some_iff.mp H;obtain⟨t228,A170,H⟩:=H;(try dsimp only at H);have A17:=Aside0.mk A170;clear A170;have H':=Aside0.mk H;clear H;have p227:0≤(x13_1:Int):=dt_;have q227:x13_1 < (t215.length:Int):=dt_;obtain⟨ad227,e227,hx227_0,hx227_1⟩:=at_T57 (Kd.R_reads' HO_6.out).2.2 x13_1 p227 q227;cases e227;replace p227:=eq_true p227;replace q227:=eq_true q227;(go_wp2_with (first|(go_at_call 36;(with_reducible refine(sennitref21_Marked.calls k1 ((rd_T57 t215 x13_1).f0) ((rd_T57 t215 x13_1).f1) t228 _ A17.out).mono ?_);rintro e w18 ⟨rfl,hb⟩;replace HO_6:=Aside0.mk (Kd.R_below (pR_ HO_6.out) hb);replace HO_8:=Aside0.mk (Kd.N_below (pN_ HO_8.out) hb);replace HO_10:=Aside0.mk (Kd.N_below (pN_ HO_10.out) hb);replace HB:=Aside0.mk (below_step bel_ hb);(try clear hb);(try clear hb2);(try clear hk);(try clear hi))))
       go_roundg k1
       (case measure=>have:=HK1.out;omega);(case rel=>exact⟨(t228),(wrap64 (x13_1+1)),rs_,rs_,H',⟨by have:=HK1.out;omega⟩,⟨pR_ HO_6.out⟩,⟨pN_ HO_8.out⟩,⟨pN_ HO_10.out⟩,⟨bel_⟩⟩)
      (· exact nx_ c16 H)
    ·
     (rw[if_neg c14] at H);have c14b0:decide (x13_1 < (t215.length:Int))=false:=decide_eq_false c14;clear c14
     by_cases c19:(t219.length:Int)=1
     ·
      (rw[if_pos c19] at H);have c19b0:((t219.length:Int) == 1)=true:=beq_iff_eq.mpr c19;have c19b1:((t219.length:Int) != 1)=false:=bne_eq_false_iff_eq.mpr c19;clear c19
      by_cases c20:0 < (t219.length:Int)
      ·
       (rw[if_pos c20] at H);have c20b0:decide (0 < (t219.length:Int))=true:=decide_eq_true c20;have c20b1:decide (0 < t219.length)=true:=decide_eq_true (by omega);clear c20;replace H:=Option.bind_eq_some_iff.mp H;obtain⟨t230,A210,H⟩:=H;(try dsimp only at H);have A21:=Aside0.mk A210;clear A210
       by_cases c22:t230=true
       ·
        subst c22;have H1:=H;(rw[if_pos rfl] at H1);clear H;have H:=H1;clear H1
        by_cases c23:t213=true
        ·
         subst c23;have H1:=H;(rw[if_pos rfl] at H1);clear H;have H:=H1;clear H1
         by_cases c24:t222=0
         ·
          (rw[if_pos c24] at H);have c24b0:(t222 == 0)=true:=beq_iff_eq.mpr c24;have c24b1:(t222 != 0)=false:=bne_eq_false_iff_eq.mpr c24;clear c24
          by_cases c25:t226=1
          ·
           (rw[if_pos c25] at H);have c25b0:(t226 == 1)=true:=beq_iff_eq.mpr c25;have c25b1:(t226 != 1)=false:=bne_eq_false_iff_eq.mpr c25;clear c25
           by_cases c26:(t223.length:Int)=0
           ·
            (rw[if_pos c26] at H);have c26b0:((t223.length:Int) == 0)=true:=beq_iff_eq.mpr c26;have c26b1:((t223.length:Int) != 0)=false:=bne_eq_false_iff_eq.mpr c26;clear c26
            by_cases c27:x12_1=true
            ·
             subst c27;have H1:=H;(rw[if_pos rfl] at H1);clear H;have H:=H1;clear H1
             by_cases c28:((rd_T48 t219 0).f1.f1)=(l0.length:Int)
             (· (rw[if_pos c28] at H);have c28b0:(((rd_T48 t219 0).f1.f1) == (l0.length:Int))=true:=beq_iff_eq.mpr c28;have c28b1:(((rd_T48 t219 0).f1.f1) != (l0.length:Int))=false:=bne_eq_false_iff_eq.mpr c28;clear c28;obtain rfl:=Option.some.inj H;obtain⟨Ao29,co29,eo29⟩:=Kd.N_slice HO_8.out;subst eo29;have p229:0≤(0:Int):=(by omega);have q229:0 < (t219.length:Int):=dt_;obtain⟨ad229,A229_0,c229_0,A229_3,c229_3,e229,hx229_0,hx229_1,hx229_2,hx229_3,hl229_0,hi229_0,hl229_3,hi229_3⟩:=at_T48 (Kd.N_reads' HO_8.out).2.2 0 p229 q229;cases e229;obtain⟨ce229,hce229,hMe229,hcc229⟩:=Kd.N_get HO_8.out z48 0 p229 (by first|exact q229|exact dt_|(have e_:=(Kd.N_reads' HO_8.out).1;omega));obtain⟨ua229_0,uc229_0,ua229_3,uc229_3,rfl,ul229_0,ge229_0,ul229_3,ge229_3⟩:=k48_openF hMe229;have hv229_0:=hcc229 0 _ rfl;(rw[Nat.add_zero] at hv229_0);replace hv229_0:=Option.some.inj (hv229_0.symm.trans hx229_0);(injection hv229_0 with hva_ hvn_ hvc_);(rw[hva_] at ge229_0);(rw[hvc_] at ul229_0);have HL229_0:=Aside0.mk (show Kd.V k45 45 _ w.heap.size _ _ ((rd_T48 t219 0).f0) from Kd.V_mk ul229_0 ge229_0);clear hva_ hvn_ hvc_ ge229_0 ul229_0;have hv229_3:=hcc229 3 _ rfl;(rw[add_field _ _ 3 (by omega)] at hv229_3);replace hv229_3:=Option.some.inj (hv229_3.symm.trans hx229_3);(injection hv229_3 with hva_ hvn_ hvc_);(rw[hva_] at ge229_3);(rw[hvc_] at ul229_3);have HL229_3:=Aside0.mk (show Kd.V k57 57 _ w.heap.size _ _ ((rd_T48 t219 0).f2) from Kd.V_mk ul229_3 ge229_3);clear hva_ hvn_ hvc_ ge229_3 ul229_3;clear hcc229 hce229;have qi229:(0 < t219.length)=True:=eq_true (by omega);(try rw[show ((0:Int)).toNat=0 from rfl] at hx229_0);(try rw[show 0 * 4=0 from rfl] at hx229_0);(try rw[Addr.add_zero'] at hx229_0);(try rw[show ((0:Int)).toNat=0 from rfl] at hx229_1);(try rw[show 0 * 4=0 from rfl] at hx229_1);(try rw[Addr.add_zero'] at hx229_1);(try rw[show ((0:Int)).toNat=0 from rfl] at hx229_2);(try rw[show 0 * 4=0 from rfl] at hx229_2);(try rw[Addr.add_zero'] at hx229_2);(try rw[show ((0:Int)).toNat=0 from rfl] at hx229_3);(try rw[show 0 * 4=0 from rfl] at hx229_3);(try rw[Addr.add_zero'] at hx229_3);have HR229_0:=Aside0.mk hi229_0;have HC229_0:=Aside0.mk hl229_0;clear hi229_0 hl229_0;have HR229_3:=Aside0.mk hi229_3;have HC229_3:=Aside0.mk hl229_3;clear hi229_3 hl229_3;replace p229:=eq_true p229;replace q229:=eq_true q229;(go_wp2_with (first|(go_at_call 37;(with_reducible refine(sennitref19_Same.calls k1 _ _ ((rd_T48 t219 0).f2) _ _ t215 true _ ?side1 ?side2 ?side3 ?side4 A21.out).mono ?_);(case side1=>exact pC_ HR229_3.out);(case side2=>exact HC229_3.out);(case side3=>repeat(first|exact(Kd.R_reads' HO_6.out).2.2|(with_reducible refine Kd.C_alloc ?_ _)|(with_reducible refine Kd.C_drewN ?_ _)|(with_reducible refine Kd.C_drew ?_)));(case side4=>exact(Kd.R_reads' HO_6.out).2.1);rintro e w' ⟨rfl,⟨nd,rfl⟩⟩;have p231:0≤(0:Int):=(by omega);have q231:0 < (t219.length:Int):=dt_;obtain⟨ad231,A231_0,c231_0,A231_3,c231_3,e231,hx231_0,hx231_1,hx231_2,hx231_3,hl231_0,hi231_0,hl231_3,hi231_3⟩:=at_T48 (Kd.N_reads' HO_8.out).2.2 0 p231 q231;obtain rfl:ad229=ad231:=(by injection e231);obtain⟨ce231,hce231,hMe231,hcc231⟩:=Kd.N_get HO_8.out z48 0 p231 (by first|exact q231|exact dt_|(have e_:=(Kd.N_reads' HO_8.out).1;omega));obtain⟨ua231_0,uc231_0,ua231_3,uc231_3,rfl,ul231_0,ge231_0,ul231_3,ge231_3⟩:=k48_openF hMe231;have hv231_0:=hcc231 0 _ rfl;rw[Nat.add_zero] at hv231_0;replace hv231_0:=Option.some.inj (hv231_0.symm.trans hx231_0);injection hv231_0 with hva_ hvn_ hvc_;rw[hva_] at ge231_0;rw[hvc_] at ul231_0;have HL231_0:=Aside0.mk (show Kd.V k45 45 _ w.heap.size _ _ ((rd_T48 t219 0).f0) from Kd.V_mk ul231_0 ge231_0);clear hva_ hvn_ hvc_ ge231_0 ul231_0;have hv231_3:=hcc231 3 _ rfl;rw[add_field _ _ 3 (by omega)] at hv231_3;replace hv231_3:=Option.some.inj (hv231_3.symm.trans hx231_3);injection hv231_3 with hva_ hvn_ hvc_;rw[hva_] at ge231_3;rw[hvc_] at ul231_3;have HL231_3:=Aside0.mk (show Kd.V k57 57 _ w.heap.size _ _ ((rd_T48 t219 0).f2) from Kd.V_mk ul231_3 ge231_3);clear hva_ hvn_ hvc_ ge231_3 ul231_3;clear hcc231 hce231;have qi231:(0 < t219.length)=True:=eq_true (by omega);(try rw[show ((0:Int)).toNat=0 from rfl] at hx231_0);(try rw[show 0 * 4=0 from rfl] at hx231_0);(try rw[Addr.add_zero'] at hx231_0);(try rw[show ((0:Int)).toNat=0 from rfl] at hx231_1);(try rw[show 0 * 4=0 from rfl] at hx231_1);(try rw[Addr.add_zero'] at hx231_1);(try rw[show ((0:Int)).toNat=0 from rfl] at hx231_2);(try rw[show 0 * 4=0 from rfl] at hx231_2);(try rw[Addr.add_zero'] at hx231_2);(try rw[show ((0:Int)).toNat=0 from rfl] at hx231_3);(try rw[show 0 * 4=0 from rfl] at hx231_3);(try rw[Addr.add_zero'] at hx231_3);have HR231_0:=Aside0.mk hi231_0;have HC231_0:=Aside0.mk hl231_0;clear hi231_0 hl231_0;have HR231_3:=Aside0.mk hi231_3;have HC231_3:=Aside0.mk hl231_3;clear hi231_3 hl231_3;replace p231:=eq_true p231;replace q231:=eq_true q231;have ea_:=Option.some.inj (hx229_0.symm.trans hx231_0);injection ea_ with ea_ en_ ec_;subst ea_;subst ec_;clear en_;have ea_:=Option.some.inj (hx229_3.symm.trans hx231_3);injection ea_ with ea_ en_ ec_;subst ea_;subst ec_;clear en_;obtain⟨Ao30,co30,eo30⟩:=Kd.N_slice HO_10.out;subst eo30)));go_ret;exact⟨by first|rfl|(simp[errW_none,errW_some] <;> rfl)|(simp[*,errW_none,errW_some] <;> rfl),bel_⟩)
             (· (rw[if_neg c28] at H);have c28b0:(((rd_T48 t219 0).f1.f1) == (l0.length:Int))=false:=beq_eq_false_iff_ne.mpr c28;have c28b1:(((rd_T48 t219 0).f1.f1) != (l0.length:Int))=true:=bne_iff_ne.mpr c28;obtain rfl:=Option.some.inj H;obtain⟨Ao31,co31,eo31⟩:=Kd.N_slice HO_8.out;subst eo31;have p229:0≤(0:Int):=(by omega);have q229:0 < (t219.length:Int):=dt_;obtain⟨ad229,A229_0,c229_0,A229_3,c229_3,e229,hx229_0,hx229_1,hx229_2,hx229_3,hl229_0,hi229_0,hl229_3,hi229_3⟩:=at_T48 (Kd.N_reads' HO_8.out).2.2 0 p229 q229;cases e229;obtain⟨ce229,hce229,hMe229,hcc229⟩:=Kd.N_get HO_8.out z48 0 p229 (by first|exact q229|exact dt_|(have e_:=(Kd.N_reads' HO_8.out).1;omega));obtain⟨ua229_0,uc229_0,ua229_3,uc229_3,rfl,ul229_0,ge229_0,ul229_3,ge229_3⟩:=k48_openF hMe229;have hv229_0:=hcc229 0 _ rfl;(rw[Nat.add_zero] at hv229_0);replace hv229_0:=Option.some.inj (hv229_0.symm.trans hx229_0);(injection hv229_0 with hva_ hvn_ hvc_);(rw[hva_] at ge229_0);(rw[hvc_] at ul229_0);have HL229_0:=Aside0.mk (show Kd.V k45 45 _ w.heap.size _ _ ((rd_T48 t219 0).f0) from Kd.V_mk ul229_0 ge229_0);clear hva_ hvn_ hvc_ ge229_0 ul229_0;have hv229_3:=hcc229 3 _ rfl;(rw[add_field _ _ 3 (by omega)] at hv229_3);replace hv229_3:=Option.some.inj (hv229_3.symm.trans hx229_3);(injection hv229_3 with hva_ hvn_ hvc_);(rw[hva_] at ge229_3);(rw[hvc_] at ul229_3);have HL229_3:=Aside0.mk (show Kd.V k57 57 _ w.heap.size _ _ ((rd_T48 t219 0).f2) from Kd.V_mk ul229_3 ge229_3);clear hva_ hvn_ hvc_ ge229_3 ul229_3;clear hcc229 hce229;have qi229:(0 < t219.length)=True:=eq_true (by omega);(try rw[show ((0:Int)).toNat=0 from rfl] at hx229_0);(try rw[show 0 * 4=0 from rfl] at hx229_0);(try rw[Addr.add_zero'] at hx229_0);(try rw[show ((0:Int)).toNat=0 from rfl] at hx229_1);(try rw[show 0 * 4=0 from rfl] at hx229_1);(try rw[Addr.add_zero'] at hx229_1);(try rw[show ((0:Int)).toNat=0 from rfl] at hx229_2);(try rw[show 0 * 4=0 from rfl] at hx229_2);(try rw[Addr.add_zero'] at hx229_2);(try rw[show ((0:Int)).toNat=0 from rfl] at hx229_3);(try rw[show 0 * 4=0 from rfl] at hx229_3);(try rw[Addr.add_zero'] at hx229_3);have HR229_0:=Aside0.mk hi229_0;have HC229_0:=Aside0.mk hl229_0;clear hi229_0 hl229_0;have HR229_3:=Aside0.mk hi229_3;have HC229_3:=Aside0.mk hl229_3;clear hi229_3 hl229_3;replace p229:=eq_true p229;replace q229:=eq_true q229;(go_wp2_with (first|(go_at_call 37;(with_reducible refine(sennitref19_Same.calls k1 _ _ ((rd_T48 t219 0).f2) _ _ t215 true _ ?side1 ?side2 ?side3 ?side4 A21.out).mono ?_);(case side1=>exact pC_ HR229_3.out);(case side2=>exact HC229_3.out);(case side3=>repeat(first|exact(Kd.R_reads' HO_6.out).2.2|(with_reducible refine Kd.C_alloc ?_ _)|(with_reducible refine Kd.C_drewN ?_ _)|(with_reducible refine Kd.C_drew ?_)));(case side4=>exact(Kd.R_reads' HO_6.out).2.1);rintro e w' ⟨rfl,⟨nd,rfl⟩⟩;have p231:0≤(0:Int):=(by omega);have q231:0 < (t219.length:Int):=dt_;obtain⟨ad231,A231_0,c231_0,A231_3,c231_3,e231,hx231_0,hx231_1,hx231_2,hx231_3,hl231_0,hi231_0,hl231_3,hi231_3⟩:=at_T48 (Kd.N_reads' HO_8.out).2.2 0 p231 q231;obtain rfl:ad229=ad231:=(by injection e231);obtain⟨ce231,hce231,hMe231,hcc231⟩:=Kd.N_get HO_8.out z48 0 p231 (by first|exact q231|exact dt_|(have e_:=(Kd.N_reads' HO_8.out).1;omega));obtain⟨ua231_0,uc231_0,ua231_3,uc231_3,rfl,ul231_0,ge231_0,ul231_3,ge231_3⟩:=k48_openF hMe231;have hv231_0:=hcc231 0 _ rfl;rw[Nat.add_zero] at hv231_0;replace hv231_0:=Option.some.inj (hv231_0.symm.trans hx231_0);injection hv231_0 with hva_ hvn_ hvc_;rw[hva_] at ge231_0;rw[hvc_] at ul231_0;have HL231_0:=Aside0.mk (show Kd.V k45 45 _ w.heap.size _ _ ((rd_T48 t219 0).f0) from Kd.V_mk ul231_0 ge231_0);clear hva_ hvn_ hvc_ ge231_0 ul231_0;have hv231_3:=hcc231 3 _ rfl;rw[add_field _ _ 3 (by omega)] at hv231_3;replace hv231_3:=Option.some.inj (hv231_3.symm.trans hx231_3);injection hv231_3 with hva_ hvn_ hvc_;rw[hva_] at ge231_3;rw[hvc_] at ul231_3;have HL231_3:=Aside0.mk (show Kd.V k57 57 _ w.heap.size _ _ ((rd_T48 t219 0).f2) from Kd.V_mk ul231_3 ge231_3);clear hva_ hvn_ hvc_ ge231_3 ul231_3;clear hcc231 hce231;have qi231:(0 < t219.length)=True:=eq_true (by omega);(try rw[show ((0:Int)).toNat=0 from rfl] at hx231_0);(try rw[show 0 * 4=0 from rfl] at hx231_0);(try rw[Addr.add_zero'] at hx231_0);(try rw[show ((0:Int)).toNat=0 from rfl] at hx231_1);(try rw[show 0 * 4=0 from rfl] at hx231_1);(try rw[Addr.add_zero'] at hx231_1);(try rw[show ((0:Int)).toNat=0 from rfl] at hx231_2);(try rw[show 0 * 4=0 from rfl] at hx231_2);(try rw[Addr.add_zero'] at hx231_2);(try rw[show ((0:Int)).toNat=0 from rfl] at hx231_3);(try rw[show 0 * 4=0 from rfl] at hx231_3);(try rw[Addr.add_zero'] at hx231_3);have HR231_0:=Aside0.mk hi231_0;have HC231_0:=Aside0.mk hl231_0;clear hi231_0 hl231_0;have HR231_3:=Aside0.mk hi231_3;have HC231_3:=Aside0.mk hl231_3;clear hi231_3 hl231_3;replace p231:=eq_true p231;replace q231:=eq_true q231;have ea_:=Option.some.inj (hx229_0.symm.trans hx231_0);injection ea_ with ea_ en_ ec_;subst ea_;subst ec_;clear en_;have ea_:=Option.some.inj (hx229_3.symm.trans hx231_3);injection ea_ with ea_ en_ ec_;subst ea_;subst ec_;clear en_;obtain⟨Ao32,co32,eo32⟩:=Kd.N_slice HO_10.out;subst eo32)));go_ret;exact⟨by first|rfl|(simp[errW_none,errW_some] <;> rfl)|(simp[*,errW_none,errW_some] <;> rfl),bel_⟩)
            (· replace c27:=Bool.eq_false_iff.mpr c27;subst c27;have H1:=H;(rw[if_neg (show ¬ (false=true) by decide)] at H1);clear H;have H:=H1;clear H1;obtain rfl:=Option.some.inj H;obtain⟨Ao33,co33,eo33⟩:=Kd.N_slice HO_8.out;subst eo33;have p229:0≤(0:Int):=(by omega);have q229:0 < (t219.length:Int):=dt_;obtain⟨ad229,A229_0,c229_0,A229_3,c229_3,e229,hx229_0,hx229_1,hx229_2,hx229_3,hl229_0,hi229_0,hl229_3,hi229_3⟩:=at_T48 (Kd.N_reads' HO_8.out).2.2 0 p229 q229;cases e229;obtain⟨ce229,hce229,hMe229,hcc229⟩:=Kd.N_get HO_8.out z48 0 p229 (by first|exact q229|exact dt_|(have e_:=(Kd.N_reads' HO_8.out).1;omega));obtain⟨ua229_0,uc229_0,ua229_3,uc229_3,rfl,ul229_0,ge229_0,ul229_3,ge229_3⟩:=k48_openF hMe229;have hv229_0:=hcc229 0 _ rfl;(rw[Nat.add_zero] at hv229_0);replace hv229_0:=Option.some.inj (hv229_0.symm.trans hx229_0);(injection hv229_0 with hva_ hvn_ hvc_);(rw[hva_] at ge229_0);(rw[hvc_] at ul229_0);have HL229_0:=Aside0.mk (show Kd.V k45 45 _ w.heap.size _ _ ((rd_T48 t219 0).f0) from Kd.V_mk ul229_0 ge229_0);clear hva_ hvn_ hvc_ ge229_0 ul229_0;have hv229_3:=hcc229 3 _ rfl;(rw[add_field _ _ 3 (by omega)] at hv229_3);replace hv229_3:=Option.some.inj (hv229_3.symm.trans hx229_3);(injection hv229_3 with hva_ hvn_ hvc_);(rw[hva_] at ge229_3);(rw[hvc_] at ul229_3);have HL229_3:=Aside0.mk (show Kd.V k57 57 _ w.heap.size _ _ ((rd_T48 t219 0).f2) from Kd.V_mk ul229_3 ge229_3);clear hva_ hvn_ hvc_ ge229_3 ul229_3;clear hcc229 hce229;have qi229:(0 < t219.length)=True:=eq_true (by omega);(try rw[show ((0:Int)).toNat=0 from rfl] at hx229_0);(try rw[show 0 * 4=0 from rfl] at hx229_0);(try rw[Addr.add_zero'] at hx229_0);(try rw[show ((0:Int)).toNat=0 from rfl] at hx229_1);(try rw[show 0 * 4=0 from rfl] at hx229_1);(try rw[Addr.add_zero'] at hx229_1);(try rw[show ((0:Int)).toNat=0 from rfl] at hx229_2);(try rw[show 0 * 4=0 from rfl] at hx229_2);(try rw[Addr.add_zero'] at hx229_2);(try rw[show ((0:Int)).toNat=0 from rfl] at hx229_3);(try rw[show 0 * 4=0 from rfl] at hx229_3);(try rw[Addr.add_zero'] at hx229_3);have HR229_0:=Aside0.mk hi229_0;have HC229_0:=Aside0.mk hl229_0;clear hi229_0 hl229_0;have HR229_3:=Aside0.mk hi229_3;have HC229_3:=Aside0.mk hl229_3;clear hi229_3 hl229_3;replace p229:=eq_true p229;replace q229:=eq_true q229;(go_wp2_with (first|(go_at_call 37;(with_reducible refine(sennitref19_Same.calls k1 _ _ ((rd_T48 t219 0).f2) _ _ t215 true _ ?side1 ?side2 ?side3 ?side4 A21.out).mono ?_);(case side1=>exact pC_ HR229_3.out);(case side2=>exact HC229_3.out);(case side3=>repeat(first|exact(Kd.R_reads' HO_6.out).2.2|(with_reducible refine Kd.C_alloc ?_ _)|(with_reducible refine Kd.C_drewN ?_ _)|(with_reducible refine Kd.C_drew ?_)));(case side4=>exact(Kd.R_reads' HO_6.out).2.1);rintro e w' ⟨rfl,⟨nd,rfl⟩⟩;have p231:0≤(0:Int):=(by omega);have q231:0 < (t219.length:Int):=dt_;obtain⟨ad231,A231_0,c231_0,A231_3,c231_3,e231,hx231_0,hx231_1,hx231_2,hx231_3,hl231_0,hi231_0,hl231_3,hi231_3⟩:=at_T48 (Kd.N_reads' HO_8.out).2.2 0 p231 q231;obtain rfl:ad229=ad231:=(by injection e231);obtain⟨ce231,hce231,hMe231,hcc231⟩:=Kd.N_get HO_8.out z48 0 p231 (by first|exact q231|exact dt_|(have e_:=(Kd.N_reads' HO_8.out).1;omega));obtain⟨ua231_0,uc231_0,ua231_3,uc231_3,rfl,ul231_0,ge231_0,ul231_3,ge231_3⟩:=k48_openF hMe231;have hv231_0:=hcc231 0 _ rfl;rw[Nat.add_zero] at hv231_0;replace hv231_0:=Option.some.inj (hv231_0.symm.trans hx231_0);injection hv231_0 with hva_ hvn_ hvc_;rw[hva_] at ge231_0;rw[hvc_] at ul231_0;have HL231_0:=Aside0.mk (show Kd.V k45 45 _ w.heap.size _ _ ((rd_T48 t219 0).f0) from Kd.V_mk ul231_0 ge231_0);clear hva_ hvn_ hvc_ ge231_0 ul231_0;have hv231_3:=hcc231 3 _ rfl;rw[add_field _ _ 3 (by omega)] at hv231_3;replace hv231_3:=Option.some.inj (hv231_3.symm.trans hx231_3);injection hv231_3 with hva_ hvn_ hvc_;rw[hva_] at ge231_3;rw[hvc_] at ul231_3;have HL231_3:=Aside0.mk (show Kd.V k57 57 _ w.heap.size _ _ ((rd_T48 t219 0).f2) from Kd.V_mk ul231_3 ge231_3);clear hva_ hvn_ hvc_ ge231_3 ul231_3;clear hcc231 hce231;have qi231:(0 < t219.length)=True:=eq_true (by omega);(try rw[show ((0:Int)).toNat=0 from rfl] at hx231_0);(try rw[show 0 * 4=0 from rfl] at hx231_0);(try rw[Addr.add_zero'] at hx231_0);(try rw[show ((0:Int)).toNat=0 from rfl] at hx231_1);(try rw[show 0 * 4=0 from rfl] at hx231_1);(try rw[Addr.add_zero'] at hx231_1);(try rw[show ((0:Int)).toNat=0 from rfl] at hx231_2);(try rw[show 0 * 4=0 from rfl] at hx231_2);(try rw[Addr.add_zero'] at hx231_2);(try rw[show ((0:Int)).toNat=0 from rfl] at hx231_3);(try rw[show 0 * 4=0 from rfl] at hx231_3);(try rw[Addr.add_zero'] at hx231_3);have HR231_0:=Aside0.mk hi231_0;have HC231_0:=Aside0.mk hl231_0;clear hi231_0 hl231_0;have HR231_3:=Aside0.mk hi231_3;have HC231_3:=Aside0.mk hl231_3;clear hi231_3 hl231_3;replace p231:=eq_true p231;replace q231:=eq_true q231;have ea_:=Option.some.inj (hx229_0.symm.trans hx231_0);injection ea_ with ea_ en_ ec_;subst ea_;subst ec_;clear en_;have ea_:=Option.some.inj (hx229_3.symm.trans hx231_3);injection ea_ with ea_ en_ ec_;subst ea_;subst ec_;clear en_;obtain⟨Ao34,co34,eo34⟩:=Kd.N_slice HO_10.out;subst eo34)));go_ret;exact⟨by first|rfl|(simp[errW_none,errW_some] <;> rfl)|(simp[*,errW_none,errW_some] <;> rfl),bel_⟩)
           (· (rw[if_neg c26] at H);have c26b0:((t223.length:Int) == 0)=false:=beq_eq_false_iff_ne.mpr c26;have c26b1:((t223.length:Int) != 0)=true:=bne_iff_ne.mpr c26;(have c26b2 : ¬ (t223=[]):=fun h_=>c26 (by rw[h_];rfl));obtain rfl:=Option.some.inj H;obtain⟨Ao35,co35,eo35⟩:=Kd.N_slice HO_8.out;subst eo35;have p229:0≤(0:Int):=(by omega);have q229:0 < (t219.length:Int):=dt_;obtain⟨ad229,A229_0,c229_0,A229_3,c229_3,e229,hx229_0,hx229_1,hx229_2,hx229_3,hl229_0,hi229_0,hl229_3,hi229_3⟩:=at_T48 (Kd.N_reads' HO_8.out).2.2 0 p229 q229;cases e229;obtain⟨ce229,hce229,hMe229,hcc229⟩:=Kd.N_get HO_8.out z48 0 p229 (by first|exact q229|exact dt_|(have e_:=(Kd.N_reads' HO_8.out).1;omega));obtain⟨ua229_0,uc229_0,ua229_3,uc229_3,rfl,ul229_0,ge229_0,ul229_3,ge229_3⟩:=k48_openF hMe229;have hv229_0:=hcc229 0 _ rfl;(rw[Nat.add_zero] at hv229_0);replace hv229_0:=Option.some.inj (hv229_0.symm.trans hx229_0);(injection hv229_0 with hva_ hvn_ hvc_);(rw[hva_] at ge229_0);(rw[hvc_] at ul229_0);have HL229_0:=Aside0.mk (show Kd.V k45 45 _ w.heap.size _ _ ((rd_T48 t219 0).f0) from Kd.V_mk ul229_0 ge229_0);clear hva_ hvn_ hvc_ ge229_0 ul229_0;have hv229_3:=hcc229 3 _ rfl;(rw[add_field _ _ 3 (by omega)] at hv229_3);replace hv229_3:=Option.some.inj (hv229_3.symm.trans hx229_3);(injection hv229_3 with hva_ hvn_ hvc_);(rw[hva_] at ge229_3);(rw[hvc_] at ul229_3);have HL229_3:=Aside0.mk (show Kd.V k57 57 _ w.heap.size _ _ ((rd_T48 t219 0).f2) from Kd.V_mk ul229_3 ge229_3);clear hva_ hvn_ hvc_ ge229_3 ul229_3;clear hcc229 hce229;have qi229:(0 < t219.length)=True:=eq_true (by omega);(try rw[show ((0:Int)).toNat=0 from rfl] at hx229_0);(try rw[show 0 * 4=0 from rfl] at hx229_0);(try rw[Addr.add_zero'] at hx229_0);(try rw[show ((0:Int)).toNat=0 from rfl] at hx229_1);(try rw[show 0 * 4=0 from rfl] at hx229_1);(try rw[Addr.add_zero'] at hx229_1);(try rw[show ((0:Int)).toNat=0 from rfl] at hx229_2);(try rw[show 0 * 4=0 from rfl] at hx229_2);(try rw[Addr.add_zero'] at hx229_2);(try rw[show ((0:Int)).toNat=0 from rfl] at hx229_3);(try rw[show 0 * 4=0 from rfl] at hx229_3);(try rw[Addr.add_zero'] at hx229_3);have HR229_0:=Aside0.mk hi229_0;have HC229_0:=Aside0.mk hl229_0;clear hi229_0 hl229_0;have HR229_3:=Aside0.mk hi229_3;have HC229_3:=Aside0.mk hl229_3;clear hi229_3 hl229_3;replace p229:=eq_true p229;replace q229:=eq_true q229;(go_wp2_with (first|(go_at_call 37;(with_reducible refine(sennitref19_Same.calls k1 _ _ ((rd_T48 t219 0).f2) _ _ t215 true _ ?side1 ?side2 ?side3 ?side4 A21.out).mono ?_);(case side1=>exact pC_ HR229_3.out);(case side2=>exact HC229_3.out);(case side3=>repeat(first|exact(Kd.R_reads' HO_6.out).2.2|(with_reducible refine Kd.C_alloc ?_ _)|(with_reducible refine Kd.C_drewN ?_ _)|(with_reducible refine Kd.C_drew ?_)));(case side4=>exact(Kd.R_reads' HO_6.out).2.1);rintro e w' ⟨rfl,⟨nd,rfl⟩⟩;have p231:0≤(0:Int):=(by omega);have q231:0 < (t219.length:Int):=dt_;obtain⟨ad231,A231_0,c231_0,A231_3,c231_3,e231,hx231_0,hx231_1,hx231_2,hx231_3,hl231_0,hi231_0,hl231_3,hi231_3⟩:=at_T48 (Kd.N_reads' HO_8.out).2.2 0 p231 q231;obtain rfl:ad229=ad231:=(by injection e231);obtain⟨ce231,hce231,hMe231,hcc231⟩:=Kd.N_get HO_8.out z48 0 p231 (by first|exact q231|exact dt_|(have e_:=(Kd.N_reads' HO_8.out).1;omega));obtain⟨ua231_0,uc231_0,ua231_3,uc231_3,rfl,ul231_0,ge231_0,ul231_3,ge231_3⟩:=k48_openF hMe231;have hv231_0:=hcc231 0 _ rfl;rw[Nat.add_zero] at hv231_0;replace hv231_0:=Option.some.inj (hv231_0.symm.trans hx231_0);injection hv231_0 with hva_ hvn_ hvc_;rw[hva_] at ge231_0;rw[hvc_] at ul231_0;have HL231_0:=Aside0.mk (show Kd.V k45 45 _ w.heap.size _ _ ((rd_T48 t219 0).f0) from Kd.V_mk ul231_0 ge231_0);clear hva_ hvn_ hvc_ ge231_0 ul231_0;have hv231_3:=hcc231 3 _ rfl;rw[add_field _ _ 3 (by omega)] at hv231_3;replace hv231_3:=Option.some.inj (hv231_3.symm.trans hx231_3);injection hv231_3 with hva_ hvn_ hvc_;rw[hva_] at ge231_3;rw[hvc_] at ul231_3;have HL231_3:=Aside0.mk (show Kd.V k57 57 _ w.heap.size _ _ ((rd_T48 t219 0).f2) from Kd.V_mk ul231_3 ge231_3);clear hva_ hvn_ hvc_ ge231_3 ul231_3;clear hcc231 hce231;have qi231:(0 < t219.length)=True:=eq_true (by omega);(try rw[show ((0:Int)).toNat=0 from rfl] at hx231_0);(try rw[show 0 * 4=0 from rfl] at hx231_0);(try rw[Addr.add_zero'] at hx231_0);(try rw[show ((0:Int)).toNat=0 from rfl] at hx231_1);(try rw[show 0 * 4=0 from rfl] at hx231_1);(try rw[Addr.add_zero'] at hx231_1);(try rw[show ((0:Int)).toNat=0 from rfl] at hx231_2);(try rw[show 0 * 4=0 from rfl] at hx231_2);(try rw[Addr.add_zero'] at hx231_2);(try rw[show ((0:Int)).toNat=0 from rfl] at hx231_3);(try rw[show 0 * 4=0 from rfl] at hx231_3);(try rw[Addr.add_zero'] at hx231_3);have HR231_0:=Aside0.mk hi231_0;have HC231_0:=Aside0.mk hl231_0;clear hi231_0 hl231_0;have HR231_3:=Aside0.mk hi231_3;have HC231_3:=Aside0.mk hl231_3;clear hi231_3 hl231_3;replace p231:=eq_true p231;replace q231:=eq_true q231;have ea_:=Option.some.inj (hx229_0.symm.trans hx231_0);injection ea_ with ea_ en_ ec_;subst ea_;subst ec_;clear en_;have ea_:=Option.some.inj (hx229_3.symm.trans hx231_3);injection ea_ with ea_ en_ ec_;subst ea_;subst ec_;clear en_;obtain⟨Ao36,co36,eo36⟩:=Kd.N_slice HO_10.out;subst eo36)));go_ret;exact⟨by first|rfl|(simp[errW_none,errW_some] <;> rfl)|(simp[*,errW_none,errW_some] <;> rfl),bel_⟩)
          (· (rw[if_neg c25] at H);have c25b0:(t226 == 1)=false:=beq_eq_false_iff_ne.mpr c25;have c25b1:(t226 != 1)=true:=bne_iff_ne.mpr c25;obtain rfl:=Option.some.inj H;obtain⟨Ao37,co37,eo37⟩:=Kd.N_slice HO_8.out;subst eo37;have p229:0≤(0:Int):=(by omega);have q229:0 < (t219.length:Int):=dt_;obtain⟨ad229,A229_0,c229_0,A229_3,c229_3,e229,hx229_0,hx229_1,hx229_2,hx229_3,hl229_0,hi229_0,hl229_3,hi229_3⟩:=at_T48 (Kd.N_reads' HO_8.out).2.2 0 p229 q229;cases e229;obtain⟨ce229,hce229,hMe229,hcc229⟩:=Kd.N_get HO_8.out z48 0 p229 (by first|exact q229|exact dt_|(have e_:=(Kd.N_reads' HO_8.out).1;omega));obtain⟨ua229_0,uc229_0,ua229_3,uc229_3,rfl,ul229_0,ge229_0,ul229_3,ge229_3⟩:=k48_openF hMe229;have hv229_0:=hcc229 0 _ rfl;(rw[Nat.add_zero] at hv229_0);replace hv229_0:=Option.some.inj (hv229_0.symm.trans hx229_0);(injection hv229_0 with hva_ hvn_ hvc_);(rw[hva_] at ge229_0);(rw[hvc_] at ul229_0);have HL229_0:=Aside0.mk (show Kd.V k45 45 _ w.heap.size _ _ ((rd_T48 t219 0).f0) from Kd.V_mk ul229_0 ge229_0);clear hva_ hvn_ hvc_ ge229_0 ul229_0;have hv229_3:=hcc229 3 _ rfl;(rw[add_field _ _ 3 (by omega)] at hv229_3);replace hv229_3:=Option.some.inj (hv229_3.symm.trans hx229_3);(injection hv229_3 with hva_ hvn_ hvc_);(rw[hva_] at ge229_3);(rw[hvc_] at ul229_3);have HL229_3:=Aside0.mk (show Kd.V k57 57 _ w.heap.size _ _ ((rd_T48 t219 0).f2) from Kd.V_mk ul229_3 ge229_3);clear hva_ hvn_ hvc_ ge229_3 ul229_3;clear hcc229 hce229;have qi229:(0 < t219.length)=True:=eq_true (by omega);(try rw[show ((0:Int)).toNat=0 from rfl] at hx229_0);(try rw[show 0 * 4=0 from rfl] at hx229_0);(try rw[Addr.add_zero'] at hx229_0);(try rw[show ((0:Int)).toNat=0 from rfl] at hx229_1);(try rw[show 0 * 4=0 from rfl] at hx229_1);(try rw[Addr.add_zero'] at hx229_1);(try rw[show ((0:Int)).toNat=0 from rfl] at hx229_2);(try rw[show 0 * 4=0 from rfl] at hx229_2);(try rw[Addr.add_zero'] at hx229_2);(try rw[show ((0:Int)).toNat=0 from rfl] at hx229_3);(try rw[show 0 * 4=0 from rfl] at hx229_3);(try rw[Addr.add_zero'] at hx229_3);have HR229_0:=Aside0.mk hi229_0;have HC229_0:=Aside0.mk hl229_0;clear hi229_0 hl229_0;have HR229_3:=Aside0.mk hi229_3;have HC229_3:=Aside0.mk hl229_3;clear hi229_3 hl229_3;replace p229:=eq_true p229;replace q229:=eq_true q229;(go_wp2_with (first|(go_at_call 37;(with_reducible refine(sennitref19_Same.calls k1 _ _ ((rd_T48 t219 0).f2) _ _ t215 true _ ?side1 ?side2 ?side3 ?side4 A21.out).mono ?_);(case side1=>exact pC_ HR229_3.out);(case side2=>exact HC229_3.out);(case side3=>repeat(first|exact(Kd.R_reads' HO_6.out).2.2|(with_reducible refine Kd.C_alloc ?_ _)|(with_reducible refine Kd.C_drewN ?_ _)|(with_reducible refine Kd.C_drew ?_)));(case side4=>exact(Kd.R_reads' HO_6.out).2.1);rintro e w' ⟨rfl,⟨nd,rfl⟩⟩;have p231:0≤(0:Int):=(by omega);have q231:0 < (t219.length:Int):=dt_;obtain⟨ad231,A231_0,c231_0,A231_3,c231_3,e231,hx231_0,hx231_1,hx231_2,hx231_3,hl231_0,hi231_0,hl231_3,hi231_3⟩:=at_T48 (Kd.N_reads' HO_8.out).2.2 0 p231 q231;obtain rfl:ad229=ad231:=(by injection e231);obtain⟨ce231,hce231,hMe231,hcc231⟩:=Kd.N_get HO_8.out z48 0 p231 (by first|exact q231|exact dt_|(have e_:=(Kd.N_reads' HO_8.out).1;omega));obtain⟨ua231_0,uc231_0,ua231_3,uc231_3,rfl,ul231_0,ge231_0,ul231_3,ge231_3⟩:=k48_openF hMe231;have hv231_0:=hcc231 0 _ rfl;rw[Nat.add_zero] at hv231_0;replace hv231_0:=Option.some.inj (hv231_0.symm.trans hx231_0);injection hv231_0 with hva_ hvn_ hvc_;rw[hva_] at ge231_0;rw[hvc_] at ul231_0;have HL231_0:=Aside0.mk (show Kd.V k45 45 _ w.heap.size _ _ ((rd_T48 t219 0).f0) from Kd.V_mk ul231_0 ge231_0);clear hva_ hvn_ hvc_ ge231_0 ul231_0;have hv231_3:=hcc231 3 _ rfl;rw[add_field _ _ 3 (by omega)] at hv231_3;replace hv231_3:=Option.some.inj (hv231_3.symm.trans hx231_3);injection hv231_3 with hva_ hvn_ hvc_;rw[hva_] at ge231_3;rw[hvc_] at ul231_3;have HL231_3:=Aside0.mk (show Kd.V k57 57 _ w.heap.size _ _ ((rd_T48 t219 0).f2) from Kd.V_mk ul231_3 ge231_3);clear hva_ hvn_ hvc_ ge231_3 ul231_3;clear hcc231 hce231;have qi231:(0 < t219.length)=True:=eq_true (by omega);(try rw[show ((0:Int)).toNat=0 from rfl] at hx231_0);(try rw[show 0 * 4=0 from rfl] at hx231_0);(try rw[Addr.add_zero'] at hx231_0);(try rw[show ((0:Int)).toNat=0 from rfl] at hx231_1);(try rw[show 0 * 4=0 from rfl] at hx231_1);(try rw[Addr.add_zero'] at hx231_1);(try rw[show ((0:Int)).toNat=0 from rfl] at hx231_2);(try rw[show 0 * 4=0 from rfl] at hx231_2);(try rw[Addr.add_zero'] at hx231_2);(try rw[show ((0:Int)).toNat=0 from rfl] at hx231_3);(try rw[show 0 * 4=0 from rfl] at hx231_3);(try rw[Addr.add_zero'] at hx231_3);have HR231_0:=Aside0.mk hi231_0;have HC231_0:=Aside0.mk hl231_0;clear hi231_0 hl231_0;have HR231_3:=Aside0.mk hi231_3;have HC231_3:=Aside0.mk hl231_3;clear hi231_3 hl231_3;replace p231:=eq_true p231;replace q231:=eq_true q231;have ea_:=Option.some.inj (hx229_0.symm.trans hx231_0);injection ea_ with ea_ en_ ec_;subst ea_;subst ec_;clear en_;have ea_:=Option.some.inj (hx229_3.symm.trans hx231_3);injection ea_ with ea_ en_ ec_;subst ea_;subst ec_;clear en_)));go_ret;exact⟨by first|rfl|(simp[errW_none,errW_some] <;> rfl)|(simp[*,errW_none,errW_some] <;> rfl),bel_⟩)
         (· (rw[if_neg c24] at H);have c24b0:(t222 == 0)=false:=beq_eq_false_iff_ne.mpr c24;have c24b1:(t222 != 0)=true:=bne_iff_ne.mpr c24;obtain rfl:=Option.some.inj H;obtain⟨Ao38,co38,eo38⟩:=Kd.N_slice HO_8.out;subst eo38;have p229:0≤(0:Int):=(by omega);have q229:0 < (t219.length:Int):=dt_;obtain⟨ad229,A229_0,c229_0,A229_3,c229_3,e229,hx229_0,hx229_1,hx229_2,hx229_3,hl229_0,hi229_0,hl229_3,hi229_3⟩:=at_T48 (Kd.N_reads' HO_8.out).2.2 0 p229 q229;cases e229;obtain⟨ce229,hce229,hMe229,hcc229⟩:=Kd.N_get HO_8.out z48 0 p229 (by first|exact q229|exact dt_|(have e_:=(Kd.N_reads' HO_8.out).1;omega));obtain⟨ua229_0,uc229_0,ua229_3,uc229_3,rfl,ul229_0,ge229_0,ul229_3,ge229_3⟩:=k48_openF hMe229;have hv229_0:=hcc229 0 _ rfl;(rw[Nat.add_zero] at hv229_0);replace hv229_0:=Option.some.inj (hv229_0.symm.trans hx229_0);(injection hv229_0 with hva_ hvn_ hvc_);(rw[hva_] at ge229_0);(rw[hvc_] at ul229_0);have HL229_0:=Aside0.mk (show Kd.V k45 45 _ w.heap.size _ _ ((rd_T48 t219 0).f0) from Kd.V_mk ul229_0 ge229_0);clear hva_ hvn_ hvc_ ge229_0 ul229_0;have hv229_3:=hcc229 3 _ rfl;(rw[add_field _ _ 3 (by omega)] at hv229_3);replace hv229_3:=Option.some.inj (hv229_3.symm.trans hx229_3);(injection hv229_3 with hva_ hvn_ hvc_);(rw[hva_] at ge229_3);(rw[hvc_] at ul229_3);have HL229_3:=Aside0.mk (show Kd.V k57 57 _ w.heap.size _ _ ((rd_T48 t219 0).f2) from Kd.V_mk ul229_3 ge229_3);clear hva_ hvn_ hvc_ ge229_3 ul229_3;clear hcc229 hce229;have qi229:(0 < t219.length)=True:=eq_true (by omega);(try rw[show ((0:Int)).toNat=0 from rfl] at hx229_0);(try rw[show 0 * 4=0 from rfl] at hx229_0);(try rw[Addr.add_zero'] at hx229_0);(try rw[show ((0:Int)).toNat=0 from rfl] at hx229_1);(try rw[show 0 * 4=0 from rfl] at hx229_1);(try rw[Addr.add_zero'] at hx229_1);(try rw[show ((0:Int)).toNat=0 from rfl] at hx229_2);(try rw[show 0 * 4=0 from rfl] at hx229_2);(try rw[Addr.add_zero'] at hx229_2);(try rw[show ((0:Int)).toNat=0 from rfl] at hx229_3);(try rw[show 0 * 4=0 from rfl] at hx229_3);(try rw[Addr.add_zero'] at hx229_3);have HR229_0:=Aside0.mk hi229_0;have HC229_0:=Aside0.mk hl229_0;clear hi229_0 hl229_0;have HR229_3:=Aside0.mk hi229_3;have HC229_3:=Aside0.mk hl229_3;clear hi229_3 hl229_3;replace p229:=eq_true p229;replace q229:=eq_true q229;(go_wp2_with (first|(go_at_call 37;(with_reducible refine(sennitref19_Same.calls k1 _ _ ((rd_T48 t219 0).f2) _ _ t215 true _ ?side1 ?side2 ?side3 ?side4 A21.out).mono ?_);(case side1=>exact pC_ HR229_3.out);(case side2=>exact HC229_3.out);(case side3=>repeat(first|exact(Kd.R_reads' HO_6.out).2.2|(with_reducible refine Kd.C_alloc ?_ _)|(with_reducible refine Kd.C_drewN ?_ _)|(with_reducible refine Kd.C_drew ?_)));(case side4=>exact(Kd.R_reads' HO_6.out).2.1);rintro e w' ⟨rfl,⟨nd,rfl⟩⟩;have p231:0≤(0:Int):=(by omega);have q231:0 < (t219.length:Int):=dt_;obtain⟨ad231,A231_0,c231_0,A231_3,c231_3,e231,hx231_0,hx231_1,hx231_2,hx231_3,hl231_0,hi231_0,hl231_3,hi231_3⟩:=at_T48 (Kd.N_reads' HO_8.out).2.2 0 p231 q231;obtain rfl:ad229=ad231:=(by injection e231);obtain⟨ce231,hce231,hMe231,hcc231⟩:=Kd.N_get HO_8.out z48 0 p231 (by first|exact q231|exact dt_|(have e_:=(Kd.N_reads' HO_8.out).1;omega));obtain⟨ua231_0,uc231_0,ua231_3,uc231_3,rfl,ul231_0,ge231_0,ul231_3,ge231_3⟩:=k48_openF hMe231;have hv231_0:=hcc231 0 _ rfl;rw[Nat.add_zero] at hv231_0;replace hv231_0:=Option.some.inj (hv231_0.symm.trans hx231_0);injection hv231_0 with hva_ hvn_ hvc_;rw[hva_] at ge231_0;rw[hvc_] at ul231_0;have HL231_0:=Aside0.mk (show Kd.V k45 45 _ w.heap.size _ _ ((rd_T48 t219 0).f0) from Kd.V_mk ul231_0 ge231_0);clear hva_ hvn_ hvc_ ge231_0 ul231_0;have hv231_3:=hcc231 3 _ rfl;rw[add_field _ _ 3 (by omega)] at hv231_3;replace hv231_3:=Option.some.inj (hv231_3.symm.trans hx231_3);injection hv231_3 with hva_ hvn_ hvc_;rw[hva_] at ge231_3;rw[hvc_] at ul231_3;have HL231_3:=Aside0.mk (show Kd.V k57 57 _ w.heap.size _ _ ((rd_T48 t219 0).f2) from Kd.V_mk ul231_3 ge231_3);clear hva_ hvn_ hvc_ ge231_3 ul231_3;clear hcc231 hce231;have qi231:(0 < t219.length)=True:=eq_true (by omega);(try rw[show ((0:Int)).toNat=0 from rfl] at hx231_0);(try rw[show 0 * 4=0 from rfl] at hx231_0);(try rw[Addr.add_zero'] at hx231_0);(try rw[show ((0:Int)).toNat=0 from rfl] at hx231_1);(try rw[show 0 * 4=0 from rfl] at hx231_1);(try rw[Addr.add_zero'] at hx231_1);(try rw[show ((0:Int)).toNat=0 from rfl] at hx231_2);(try rw[show 0 * 4=0 from rfl] at hx231_2);(try rw[Addr.add_zero'] at hx231_2);(try rw[show ((0:Int)).toNat=0 from rfl] at hx231_3);(try rw[show 0 * 4=0 from rfl] at hx231_3);(try rw[Addr.add_zero'] at hx231_3);have HR231_0:=Aside0.mk hi231_0;have HC231_0:=Aside0.mk hl231_0;clear hi231_0 hl231_0;have HR231_3:=Aside0.mk hi231_3;have HC231_3:=Aside0.mk hl231_3;clear hi231_3 hl231_3;replace p231:=eq_true p231;replace q231:=eq_true q231;have ea_:=Option.some.inj (hx229_0.symm.trans hx231_0);injection ea_ with ea_ en_ ec_;subst ea_;subst ec_;clear en_;have ea_:=Option.some.inj (hx229_3.symm.trans hx231_3);injection ea_ with ea_ en_ ec_;subst ea_;subst ec_;clear en_)));go_ret;exact⟨by first|rfl|(simp[errW_none,errW_some] <;> rfl)|(simp[*,errW_none,errW_some] <;> rfl),bel_⟩)
        (· replace c23:=Bool.eq_false_iff.mpr c23;subst c23;have H1:=H;(rw[if_neg (show ¬ (false=true) by decide)] at H1);clear H;have H:=H1;clear H1;obtain rfl:=Option.some.inj H;obtain⟨Ao39,co39,eo39⟩:=Kd.N_slice HO_8.out;subst eo39;have p229:0≤(0:Int):=(by omega);have q229:0 < (t219.length:Int):=dt_;obtain⟨ad229,A229_0,c229_0,A229_3,c229_3,e229,hx229_0,hx229_1,hx229_2,hx229_3,hl229_0,hi229_0,hl229_3,hi229_3⟩:=at_T48 (Kd.N_reads' HO_8.out).2.2 0 p229 q229;cases e229;obtain⟨ce229,hce229,hMe229,hcc229⟩:=Kd.N_get HO_8.out z48 0 p229 (by first|exact q229|exact dt_|(have e_:=(Kd.N_reads' HO_8.out).1;omega));obtain⟨ua229_0,uc229_0,ua229_3,uc229_3,rfl,ul229_0,ge229_0,ul229_3,ge229_3⟩:=k48_openF hMe229;have hv229_0:=hcc229 0 _ rfl;(rw[Nat.add_zero] at hv229_0);replace hv229_0:=Option.some.inj (hv229_0.symm.trans hx229_0);(injection hv229_0 with hva_ hvn_ hvc_);(rw[hva_] at ge229_0);(rw[hvc_] at ul229_0);have HL229_0:=Aside0.mk (show Kd.V k45 45 _ w.heap.size _ _ ((rd_T48 t219 0).f0) from Kd.V_mk ul229_0 ge229_0);clear hva_ hvn_ hvc_ ge229_0 ul229_0;have hv229_3:=hcc229 3 _ rfl;(rw[add_field _ _ 3 (by omega)] at hv229_3);replace hv229_3:=Option.some.inj (hv229_3.symm.trans hx229_3);(injection hv229_3 with hva_ hvn_ hvc_);(rw[hva_] at ge229_3);(rw[hvc_] at ul229_3);have HL229_3:=Aside0.mk (show Kd.V k57 57 _ w.heap.size _ _ ((rd_T48 t219 0).f2) from Kd.V_mk ul229_3 ge229_3);clear hva_ hvn_ hvc_ ge229_3 ul229_3;clear hcc229 hce229;have qi229:(0 < t219.length)=True:=eq_true (by omega);(try rw[show ((0:Int)).toNat=0 from rfl] at hx229_0);(try rw[show 0 * 4=0 from rfl] at hx229_0);(try rw[Addr.add_zero'] at hx229_0);(try rw[show ((0:Int)).toNat=0 from rfl] at hx229_1);(try rw[show 0 * 4=0 from rfl] at hx229_1);(try rw[Addr.add_zero'] at hx229_1);(try rw[show ((0:Int)).toNat=0 from rfl] at hx229_2);(try rw[show 0 * 4=0 from rfl] at hx229_2);(try rw[Addr.add_zero'] at hx229_2);(try rw[show ((0:Int)).toNat=0 from rfl] at hx229_3);(try rw[show 0 * 4=0 from rfl] at hx229_3);(try rw[Addr.add_zero'] at hx229_3);have HR229_0:=Aside0.mk hi229_0;have HC229_0:=Aside0.mk hl229_0;clear hi229_0 hl229_0;have HR229_3:=Aside0.mk hi229_3;have HC229_3:=Aside0.mk hl229_3;clear hi229_3 hl229_3;replace p229:=eq_true p229;replace q229:=eq_true q229;(go_wp2_with (first|(go_at_call 37;(with_reducible refine(sennitref19_Same.calls k1 _ _ ((rd_T48 t219 0).f2) _ _ t215 true _ ?side1 ?side2 ?side3 ?side4 A21.out).mono ?_);(case side1=>exact pC_ HR229_3.out);(case side2=>exact HC229_3.out);(case side3=>repeat(first|exact(Kd.R_reads' HO_6.out).2.2|(with_reducible refine Kd.C_alloc ?_ _)|(with_reducible refine Kd.C_drewN ?_ _)|(with_reducible refine Kd.C_drew ?_)));(case side4=>exact(Kd.R_reads' HO_6.out).2.1);rintro e w' ⟨rfl,⟨nd,rfl⟩⟩;have p231:0≤(0:Int):=(by omega);have q231:0 < (t219.length:Int):=dt_;obtain⟨ad231,A231_0,c231_0,A231_3,c231_3,e231,hx231_0,hx231_1,hx231_2,hx231_3,hl231_0,hi231_0,hl231_3,hi231_3⟩:=at_T48 (Kd.N_reads' HO_8.out).2.2 0 p231 q231;obtain rfl:ad229=ad231:=(by injection e231);obtain⟨ce231,hce231,hMe231,hcc231⟩:=Kd.N_get HO_8.out z48 0 p231 (by first|exact q231|exact dt_|(have e_:=(Kd.N_reads' HO_8.out).1;omega));obtain⟨ua231_0,uc231_0,ua231_3,uc231_3,rfl,ul231_0,ge231_0,ul231_3,ge231_3⟩:=k48_openF hMe231;have hv231_0:=hcc231 0 _ rfl;rw[Nat.add_zero] at hv231_0;replace hv231_0:=Option.some.inj (hv231_0.symm.trans hx231_0);injection hv231_0 with hva_ hvn_ hvc_;rw[hva_] at ge231_0;rw[hvc_] at ul231_0;have HL231_0:=Aside0.mk (show Kd.V k45 45 _ w.heap.size _ _ ((rd_T48 t219 0).f0) from Kd.V_mk ul231_0 ge231_0);clear hva_ hvn_ hvc_ ge231_0 ul231_0;have hv231_3:=hcc231 3 _ rfl;rw[add_field _ _ 3 (by omega)] at hv231_3;replace hv231_3:=Option.some.inj (hv231_3.symm.trans hx231_3);injection hv231_3 with hva_ hvn_ hvc_;rw[hva_] at ge231_3;rw[hvc_] at ul231_3;have HL231_3:=Aside0.mk (show Kd.V k57 57 _ w.heap.size _ _ ((rd_T48 t219 0).f2) from Kd.V_mk ul231_3 ge231_3);clear hva_ hvn_ hvc_ ge231_3 ul231_3;clear hcc231 hce231;have qi231:(0 < t219.length)=True:=eq_true (by omega);(try rw[show ((0:Int)).toNat=0 from rfl] at hx231_0);(try rw[show 0 * 4=0 from rfl] at hx231_0);(try rw[Addr.add_zero'] at hx231_0);(try rw[show ((0:Int)).toNat=0 from rfl] at hx231_1);(try rw[show 0 * 4=0 from rfl] at hx231_1);(try rw[Addr.add_zero'] at hx231_1);(try rw[show ((0:Int)).toNat=0 from rfl] at hx231_2);(try rw[show 0 * 4=0 from rfl] at hx231_2);(try rw[Addr.add_zero'] at hx231_2);(try rw[show ((0:Int)).toNat=0 from rfl] at hx231_3);(try rw[show 0 * 4=0 from rfl] at hx231_3);(try rw[Addr.add_zero'] at hx231_3);have HR231_0:=Aside0.mk hi231_0;have HC231_0:=Aside0.mk hl231_0;clear hi231_0 hl231_0;have HR231_3:=Aside0.mk hi231_3;have HC231_3:=Aside0.mk hl231_3;clear hi231_3 hl231_3;replace p231:=eq_true p231;replace q231:=eq_true q231;have ea_:=Option.some.inj (hx229_0.symm.trans hx231_0);injection ea_ with ea_ en_ ec_;subst ea_;subst ec_;clear en_;have ea_:=Option.some.inj (hx229_3.symm.trans hx231_3);injection ea_ with ea_ en_ ec_;subst ea_;subst ec_;clear en_)));go_ret;exact⟨by first|rfl|(simp[errW_none,errW_some] <;> rfl)|(simp[*,errW_none,errW_some] <;> rfl),bel_⟩)
       ·
        replace c22:=Bool.eq_false_iff.mpr c22;subst c22;have H1:=H;(rw[if_neg (show ¬ (false=true) by decide)] at H1);clear H;have H:=H1;clear H1
        by_cases c40:t213=true
        ·
         subst c40;have H1:=H;(rw[if_pos rfl] at H1);clear H;have H:=H1;clear H1
         by_cases c41:t222=0
         ·
          (rw[if_pos c41] at H);have c41b0:(t222 == 0)=true:=beq_iff_eq.mpr c41;have c41b1:(t222 != 0)=false:=bne_eq_false_iff_eq.mpr c41;clear c41
          by_cases c42:t226=1
          ·
           (rw[if_pos c42] at H);have c42b0:(t226 == 1)=true:=beq_iff_eq.mpr c42;have c42b1:(t226 != 1)=false:=bne_eq_false_iff_eq.mpr c42;clear c42
           by_cases c43:(t223.length:Int)=0
           ·
            (rw[if_pos c43] at H);have c43b0:((t223.length:Int) == 0)=true:=beq_iff_eq.mpr c43;have c43b1:((t223.length:Int) != 0)=false:=bne_eq_false_iff_eq.mpr c43;clear c43
            by_cases c44:x12_1=true
            (· subst c44;have H1:=H;(rw[if_pos rfl] at H1);clear H;have H:=H1;clear H1;obtain rfl:=Option.some.inj H;obtain⟨Ao45,co45,eo45⟩:=Kd.N_slice HO_8.out;subst eo45;have p229:0≤(0:Int):=(by omega);have q229:0 < (t219.length:Int):=dt_;obtain⟨ad229,A229_0,c229_0,A229_3,c229_3,e229,hx229_0,hx229_1,hx229_2,hx229_3,hl229_0,hi229_0,hl229_3,hi229_3⟩:=at_T48 (Kd.N_reads' HO_8.out).2.2 0 p229 q229;cases e229;obtain⟨ce229,hce229,hMe229,hcc229⟩:=Kd.N_get HO_8.out z48 0 p229 (by first|exact q229|exact dt_|(have e_:=(Kd.N_reads' HO_8.out).1;omega));obtain⟨ua229_0,uc229_0,ua229_3,uc229_3,rfl,ul229_0,ge229_0,ul229_3,ge229_3⟩:=k48_openF hMe229;have hv229_0:=hcc229 0 _ rfl;(rw[Nat.add_zero] at hv229_0);replace hv229_0:=Option.some.inj (hv229_0.symm.trans hx229_0);(injection hv229_0 with hva_ hvn_ hvc_);(rw[hva_] at ge229_0);(rw[hvc_] at ul229_0);have HL229_0:=Aside0.mk (show Kd.V k45 45 _ w.heap.size _ _ ((rd_T48 t219 0).f0) from Kd.V_mk ul229_0 ge229_0);clear hva_ hvn_ hvc_ ge229_0 ul229_0;have hv229_3:=hcc229 3 _ rfl;(rw[add_field _ _ 3 (by omega)] at hv229_3);replace hv229_3:=Option.some.inj (hv229_3.symm.trans hx229_3);(injection hv229_3 with hva_ hvn_ hvc_);(rw[hva_] at ge229_3);(rw[hvc_] at ul229_3);have HL229_3:=Aside0.mk (show Kd.V k57 57 _ w.heap.size _ _ ((rd_T48 t219 0).f2) from Kd.V_mk ul229_3 ge229_3);clear hva_ hvn_ hvc_ ge229_3 ul229_3;clear hcc229 hce229;have qi229:(0 < t219.length)=True:=eq_true (by omega);(try rw[show ((0:Int)).toNat=0 from rfl] at hx229_0);(try rw[show 0 * 4=0 from rfl] at hx229_0);(try rw[Addr.add_zero'] at hx229_0);(try rw[show ((0:Int)).toNat=0 from rfl] at hx229_1);(try rw[show 0 * 4=0 from rfl] at hx229_1);(try rw[Addr.add_zero'] at hx229_1);(try rw[show ((0:Int)).toNat=0 from rfl] at hx229_2);(try rw[show 0 * 4=0 from rfl] at hx229_2);(try rw[Addr.add_zero'] at hx229_2);(try rw[show ((0:Int)).toNat=0 from rfl] at hx229_3);(try rw[show 0 * 4=0 from rfl] at hx229_3);(try rw[Addr.add_zero'] at hx229_3);have HR229_0:=Aside0.mk hi229_0;have HC229_0:=Aside0.mk hl229_0;clear hi229_0 hl229_0;have HR229_3:=Aside0.mk hi229_3;have HC229_3:=Aside0.mk hl229_3;clear hi229_3 hl229_3;replace p229:=eq_true p229;replace q229:=eq_true q229;(go_wp2_with (first|(go_at_call 37;(with_reducible refine(sennitref19_Same.calls k1 _ _ ((rd_T48 t219 0).f2) _ _ t215 false _ ?side1 ?side2 ?side3 ?side4 A21.out).mono ?_);(case side1=>exact pC_ HR229_3.out);(case side2=>exact HC229_3.out);(case side3=>repeat(first|exact(Kd.R_reads' HO_6.out).2.2|(with_reducible refine Kd.C_alloc ?_ _)|(with_reducible refine Kd.C_drewN ?_ _)|(with_reducible refine Kd.C_drew ?_)));(case side4=>exact(Kd.R_reads' HO_6.out).2.1);rintro e w' ⟨rfl,⟨nd,rfl⟩⟩;obtain⟨Ao46,co46,eo46⟩:=Kd.N_slice HO_10.out;subst eo46)));go_ret;exact⟨by first|rfl|(simp[errW_none,errW_some] <;> rfl)|(simp[*,errW_none,errW_some] <;> rfl),bel_⟩)
            (· replace c44:=Bool.eq_false_iff.mpr c44;subst c44;have H1:=H;(rw[if_neg (show ¬ (false=true) by decide)] at H1);clear H;have H:=H1;clear H1;obtain rfl:=Option.some.inj H;obtain⟨Ao47,co47,eo47⟩:=Kd.N_slice HO_8.out;subst eo47;have p229:0≤(0:Int):=(by omega);have q229:0 < (t219.length:Int):=dt_;obtain⟨ad229,A229_0,c229_0,A229_3,c229_3,e229,hx229_0,hx229_1,hx229_2,hx229_3,hl229_0,hi229_0,hl229_3,hi229_3⟩:=at_T48 (Kd.N_reads' HO_8.out).2.2 0 p229 q229;cases e229;obtain⟨ce229,hce229,hMe229,hcc229⟩:=Kd.N_get HO_8.out z48 0 p229 (by first|exact q229|exact dt_|(have e_:=(Kd.N_reads' HO_8.out).1;omega));obtain⟨ua229_0,uc229_0,ua229_3,uc229_3,rfl,ul229_0,ge229_0,ul229_3,ge229_3⟩:=k48_openF hMe229;have hv229_0:=hcc229 0 _ rfl;(rw[Nat.add_zero] at hv229_0);replace hv229_0:=Option.some.inj (hv229_0.symm.trans hx229_0);(injection hv229_0 with hva_ hvn_ hvc_);(rw[hva_] at ge229_0);(rw[hvc_] at ul229_0);have HL229_0:=Aside0.mk (show Kd.V k45 45 _ w.heap.size _ _ ((rd_T48 t219 0).f0) from Kd.V_mk ul229_0 ge229_0);clear hva_ hvn_ hvc_ ge229_0 ul229_0;have hv229_3:=hcc229 3 _ rfl;(rw[add_field _ _ 3 (by omega)] at hv229_3);replace hv229_3:=Option.some.inj (hv229_3.symm.trans hx229_3);(injection hv229_3 with hva_ hvn_ hvc_);(rw[hva_] at ge229_3);(rw[hvc_] at ul229_3);have HL229_3:=Aside0.mk (show Kd.V k57 57 _ w.heap.size _ _ ((rd_T48 t219 0).f2) from Kd.V_mk ul229_3 ge229_3);clear hva_ hvn_ hvc_ ge229_3 ul229_3;clear hcc229 hce229;have qi229:(0 < t219.length)=True:=eq_true (by omega);(try rw[show ((0:Int)).toNat=0 from rfl] at hx229_0);(try rw[show 0 * 4=0 from rfl] at hx229_0);(try rw[Addr.add_zero'] at hx229_0);(try rw[show ((0:Int)).toNat=0 from rfl] at hx229_1);(try rw[show 0 * 4=0 from rfl] at hx229_1);(try rw[Addr.add_zero'] at hx229_1);(try rw[show ((0:Int)).toNat=0 from rfl] at hx229_2);(try rw[show 0 * 4=0 from rfl] at hx229_2);(try rw[Addr.add_zero'] at hx229_2);(try rw[show ((0:Int)).toNat=0 from rfl] at hx229_3);(try rw[show 0 * 4=0 from rfl] at hx229_3);(try rw[Addr.add_zero'] at hx229_3);have HR229_0:=Aside0.mk hi229_0;have HC229_0:=Aside0.mk hl229_0;clear hi229_0 hl229_0;have HR229_3:=Aside0.mk hi229_3;have HC229_3:=Aside0.mk hl229_3;clear hi229_3 hl229_3;replace p229:=eq_true p229;replace q229:=eq_true q229;(go_wp2_with (first|(go_at_call 37;(with_reducible refine(sennitref19_Same.calls k1 _ _ ((rd_T48 t219 0).f2) _ _ t215 false _ ?side1 ?side2 ?side3 ?side4 A21.out).mono ?_);(case side1=>exact pC_ HR229_3.out);(case side2=>exact HC229_3.out);(case side3=>repeat(first|exact(Kd.R_reads' HO_6.out).2.2|(with_reducible refine Kd.C_alloc ?_ _)|(with_reducible refine Kd.C_drewN ?_ _)|(with_reducible refine Kd.C_drew ?_)));(case side4=>exact(Kd.R_reads' HO_6.out).2.1);rintro e w' ⟨rfl,⟨nd,rfl⟩⟩;obtain⟨Ao48,co48,eo48⟩:=Kd.N_slice HO_10.out;subst eo48)));go_ret;exact⟨by first|rfl|(simp[errW_none,errW_some] <;> rfl)|(simp[*,errW_none,errW_some] <;> rfl),bel_⟩)
           (· (rw[if_neg c43] at H);have c43b0:((t223.length:Int) == 0)=false:=beq_eq_false_iff_ne.mpr c43;have c43b1:((t223.length:Int) != 0)=true:=bne_iff_ne.mpr c43;(have c43b2 : ¬ (t223=[]):=fun h_=>c43 (by rw[h_];rfl));obtain rfl:=Option.some.inj H;obtain⟨Ao49,co49,eo49⟩:=Kd.N_slice HO_8.out;subst eo49;have p229:0≤(0:Int):=(by omega);have q229:0 < (t219.length:Int):=dt_;obtain⟨ad229,A229_0,c229_0,A229_3,c229_3,e229,hx229_0,hx229_1,hx229_2,hx229_3,hl229_0,hi229_0,hl229_3,hi229_3⟩:=at_T48 (Kd.N_reads' HO_8.out).2.2 0 p229 q229;cases e229;obtain⟨ce229,hce229,hMe229,hcc229⟩:=Kd.N_get HO_8.out z48 0 p229 (by first|exact q229|exact dt_|(have e_:=(Kd.N_reads' HO_8.out).1;omega));obtain⟨ua229_0,uc229_0,ua229_3,uc229_3,rfl,ul229_0,ge229_0,ul229_3,ge229_3⟩:=k48_openF hMe229;have hv229_0:=hcc229 0 _ rfl;(rw[Nat.add_zero] at hv229_0);replace hv229_0:=Option.some.inj (hv229_0.symm.trans hx229_0);(injection hv229_0 with hva_ hvn_ hvc_);(rw[hva_] at ge229_0);(rw[hvc_] at ul229_0);have HL229_0:=Aside0.mk (show Kd.V k45 45 _ w.heap.size _ _ ((rd_T48 t219 0).f0) from Kd.V_mk ul229_0 ge229_0);clear hva_ hvn_ hvc_ ge229_0 ul229_0;have hv229_3:=hcc229 3 _ rfl;(rw[add_field _ _ 3 (by omega)] at hv229_3);replace hv229_3:=Option.some.inj (hv229_3.symm.trans hx229_3);(injection hv229_3 with hva_ hvn_ hvc_);(rw[hva_] at ge229_3);(rw[hvc_] at ul229_3);have HL229_3:=Aside0.mk (show Kd.V k57 57 _ w.heap.size _ _ ((rd_T48 t219 0).f2) from Kd.V_mk ul229_3 ge229_3);clear hva_ hvn_ hvc_ ge229_3 ul229_3;clear hcc229 hce229;have qi229:(0 < t219.length)=True:=eq_true (by omega);(try rw[show ((0:Int)).toNat=0 from rfl] at hx229_0);(try rw[show 0 * 4=0 from rfl] at hx229_0);(try rw[Addr.add_zero'] at hx229_0);(try rw[show ((0:Int)).toNat=0 from rfl] at hx229_1);(try rw[show 0 * 4=0 from rfl] at hx229_1);(try rw[Addr.add_zero'] at hx229_1);(try rw[show ((0:Int)).toNat=0 from rfl] at hx229_2);(try rw[show 0 * 4=0 from rfl] at hx229_2);(try rw[Addr.add_zero'] at hx229_2);(try rw[show ((0:Int)).toNat=0 from rfl] at hx229_3);(try rw[show 0 * 4=0 from rfl] at hx229_3);(try rw[Addr.add_zero'] at hx229_3);have HR229_0:=Aside0.mk hi229_0;have HC229_0:=Aside0.mk hl229_0;clear hi229_0 hl229_0;have HR229_3:=Aside0.mk hi229_3;have HC229_3:=Aside0.mk hl229_3;clear hi229_3 hl229_3;replace p229:=eq_true p229;replace q229:=eq_true q229;(go_wp2_with (first|(go_at_call 37;(with_reducible refine(sennitref19_Same.calls k1 _ _ ((rd_T48 t219 0).f2) _ _ t215 false _ ?side1 ?side2 ?side3 ?side4 A21.out).mono ?_);(case side1=>exact pC_ HR229_3.out);(case side2=>exact HC229_3.out);(case side3=>repeat(first|exact(Kd.R_reads' HO_6.out).2.2|(with_reducible refine Kd.C_alloc ?_ _)|(with_reducible refine Kd.C_drewN ?_ _)|(with_reducible refine Kd.C_drew ?_)));(case side4=>exact(Kd.R_reads' HO_6.out).2.1);rintro e w' ⟨rfl,⟨nd,rfl⟩⟩;obtain⟨Ao50,co50,eo50⟩:=Kd.N_slice HO_10.out;subst eo50)));go_ret;exact⟨by first|rfl|(simp[errW_none,errW_some] <;> rfl)|(simp[*,errW_none,errW_some] <;> rfl),bel_⟩)
          (· (rw[if_neg c42] at H);have c42b0:(t226 == 1)=false:=beq_eq_false_iff_ne.mpr c42;have c42b1:(t226 != 1)=true:=bne_iff_ne.mpr c42;obtain rfl:=Option.some.inj H;obtain⟨Ao51,co51,eo51⟩:=Kd.N_slice HO_8.out;subst eo51;have p229:0≤(0:Int):=(by omega);have q229:0 < (t219.length:Int):=dt_;obtain⟨ad229,A229_0,c229_0,A229_3,c229_3,e229,hx229_0,hx229_1,hx229_2,hx229_3,hl229_0,hi229_0,hl229_3,hi229_3⟩:=at_T48 (Kd.N_reads' HO_8.out).2.2 0 p229 q229;cases e229;obtain⟨ce229,hce229,hMe229,hcc229⟩:=Kd.N_get HO_8.out z48 0 p229 (by first|exact q229|exact dt_|(have e_:=(Kd.N_reads' HO_8.out).1;omega));obtain⟨ua229_0,uc229_0,ua229_3,uc229_3,rfl,ul229_0,ge229_0,ul229_3,ge229_3⟩:=k48_openF hMe229;have hv229_0:=hcc229 0 _ rfl;(rw[Nat.add_zero] at hv229_0);replace hv229_0:=Option.some.inj (hv229_0.symm.trans hx229_0);(injection hv229_0 with hva_ hvn_ hvc_);(rw[hva_] at ge229_0);(rw[hvc_] at ul229_0);have HL229_0:=Aside0.mk (show Kd.V k45 45 _ w.heap.size _ _ ((rd_T48 t219 0).f0) from Kd.V_mk ul229_0 ge229_0);clear hva_ hvn_ hvc_ ge229_0 ul229_0;have hv229_3:=hcc229 3 _ rfl;(rw[add_field _ _ 3 (by omega)] at hv229_3);replace hv229_3:=Option.some.inj (hv229_3.symm.trans hx229_3);(injection hv229_3 with hva_ hvn_ hvc_);(rw[hva_] at ge229_3);(rw[hvc_] at ul229_3);have HL229_3:=Aside0.mk (show Kd.V k57 57 _ w.heap.size _ _ ((rd_T48 t219 0).f2) from Kd.V_mk ul229_3 ge229_3);clear hva_ hvn_ hvc_ ge229_3 ul229_3;clear hcc229 hce229;have qi229:(0 < t219.length)=True:=eq_true (by omega);(try rw[show ((0:Int)).toNat=0 from rfl] at hx229_0);(try rw[show 0 * 4=0 from rfl] at hx229_0);(try rw[Addr.add_zero'] at hx229_0);(try rw[show ((0:Int)).toNat=0 from rfl] at hx229_1);(try rw[show 0 * 4=0 from rfl] at hx229_1);(try rw[Addr.add_zero'] at hx229_1);(try rw[show ((0:Int)).toNat=0 from rfl] at hx229_2);(try rw[show 0 * 4=0 from rfl] at hx229_2);(try rw[Addr.add_zero'] at hx229_2);(try rw[show ((0:Int)).toNat=0 from rfl] at hx229_3);(try rw[show 0 * 4=0 from rfl] at hx229_3);(try rw[Addr.add_zero'] at hx229_3);have HR229_0:=Aside0.mk hi229_0;have HC229_0:=Aside0.mk hl229_0;clear hi229_0 hl229_0;have HR229_3:=Aside0.mk hi229_3;have HC229_3:=Aside0.mk hl229_3;clear hi229_3 hl229_3;replace p229:=eq_true p229;replace q229:=eq_true q229;(go_wp2_with (first|(go_at_call 37;(with_reducible refine(sennitref19_Same.calls k1 _ _ ((rd_T48 t219 0).f2) _ _ t215 false _ ?side1 ?side2 ?side3 ?side4 A21.out).mono ?_);(case side1=>exact pC_ HR229_3.out);(case side2=>exact HC229_3.out);(case side3=>repeat(first|exact(Kd.R_reads' HO_6.out).2.2|(with_reducible refine Kd.C_alloc ?_ _)|(with_reducible refine Kd.C_drewN ?_ _)|(with_reducible refine Kd.C_drew ?_)));(case side4=>exact(Kd.R_reads' HO_6.out).2.1);rintro e w' ⟨rfl,⟨nd,rfl⟩⟩)));go_ret;exact⟨by first|rfl|(simp[errW_none,errW_some] <;> rfl)|(simp[*,errW_none,errW_some] <;> rfl),bel_⟩)
         (· (rw[if_neg c41] at H);have c41b0:(t222 == 0)=false:=beq_eq_false_iff_ne.mpr c41;have c41b1:(t222 != 0)=true:=bne_iff_ne.mpr c41;obtain rfl:=Option.some.inj H;obtain⟨Ao52,co52,eo52⟩:=Kd.N_slice HO_8.out;subst eo52;have p229:0≤(0:Int):=(by omega);have q229:0 < (t219.length:Int):=dt_;obtain⟨ad229,A229_0,c229_0,A229_3,c229_3,e229,hx229_0,hx229_1,hx229_2,hx229_3,hl229_0,hi229_0,hl229_3,hi229_3⟩:=at_T48 (Kd.N_reads' HO_8.out).2.2 0 p229 q229;cases e229;obtain⟨ce229,hce229,hMe229,hcc229⟩:=Kd.N_get HO_8.out z48 0 p229 (by first|exact q229|exact dt_|(have e_:=(Kd.N_reads' HO_8.out).1;omega));obtain⟨ua229_0,uc229_0,ua229_3,uc229_3,rfl,ul229_0,ge229_0,ul229_3,ge229_3⟩:=k48_openF hMe229;have hv229_0:=hcc229 0 _ rfl;(rw[Nat.add_zero] at hv229_0);replace hv229_0:=Option.some.inj (hv229_0.symm.trans hx229_0);(injection hv229_0 with hva_ hvn_ hvc_);(rw[hva_] at ge229_0);(rw[hvc_] at ul229_0);have HL229_0:=Aside0.mk (show Kd.V k45 45 _ w.heap.size _ _ ((rd_T48 t219 0).f0) from Kd.V_mk ul229_0 ge229_0);clear hva_ hvn_ hvc_ ge229_0 ul229_0;have hv229_3:=hcc229 3 _ rfl;(rw[add_field _ _ 3 (by omega)] at hv229_3);replace hv229_3:=Option.some.inj (hv229_3.symm.trans hx229_3);(injection hv229_3 with hva_ hvn_ hvc_);(rw[hva_] at ge229_3);(rw[hvc_] at ul229_3);have HL229_3:=Aside0.mk (show Kd.V k57 57 _ w.heap.size _ _ ((rd_T48 t219 0).f2) from Kd.V_mk ul229_3 ge229_3);clear hva_ hvn_ hvc_ ge229_3 ul229_3;clear hcc229 hce229;have qi229:(0 < t219.length)=True:=eq_true (by omega);(try rw[show ((0:Int)).toNat=0 from rfl] at hx229_0);(try rw[show 0 * 4=0 from rfl] at hx229_0);(try rw[Addr.add_zero'] at hx229_0);(try rw[show ((0:Int)).toNat=0 from rfl] at hx229_1);(try rw[show 0 * 4=0 from rfl] at hx229_1);(try rw[Addr.add_zero'] at hx229_1);(try rw[show ((0:Int)).toNat=0 from rfl] at hx229_2);(try rw[show 0 * 4=0 from rfl] at hx229_2);(try rw[Addr.add_zero'] at hx229_2);(try rw[show ((0:Int)).toNat=0 from rfl] at hx229_3);(try rw[show 0 * 4=0 from rfl] at hx229_3);(try rw[Addr.add_zero'] at hx229_3);have HR229_0:=Aside0.mk hi229_0;have HC229_0:=Aside0.mk hl229_0;clear hi229_0 hl229_0;have HR229_3:=Aside0.mk hi229_3;have HC229_3:=Aside0.mk hl229_3;clear hi229_3 hl229_3;replace p229:=eq_true p229;replace q229:=eq_true q229;(go_wp2_with (first|(go_at_call 37;(with_reducible refine(sennitref19_Same.calls k1 _ _ ((rd_T48 t219 0).f2) _ _ t215 false _ ?side1 ?side2 ?side3 ?side4 A21.out).mono ?_);(case side1=>exact pC_ HR229_3.out);(case side2=>exact HC229_3.out);(case side3=>repeat(first|exact(Kd.R_reads' HO_6.out).2.2|(with_reducible refine Kd.C_alloc ?_ _)|(with_reducible refine Kd.C_drewN ?_ _)|(with_reducible refine Kd.C_drew ?_)));(case side4=>exact(Kd.R_reads' HO_6.out).2.1);rintro e w' ⟨rfl,⟨nd,rfl⟩⟩)));go_ret;exact⟨by first|rfl|(simp[errW_none,errW_some] <;> rfl)|(simp[*,errW_none,errW_some] <;> rfl),bel_⟩)
        (· replace c40:=Bool.eq_false_iff.mpr c40;subst c40;have H1:=H;(rw[if_neg (show ¬ (false=true) by decide)] at H1);clear H;have H:=H1;clear H1;obtain rfl:=Option.some.inj H;obtain⟨Ao53,co53,eo53⟩:=Kd.N_slice HO_8.out;subst eo53;have p229:0≤(0:Int):=(by omega);have q229:0 < (t219.length:Int):=dt_;obtain⟨ad229,A229_0,c229_0,A229_3,c229_3,e229,hx229_0,hx229_1,hx229_2,hx229_3,hl229_0,hi229_0,hl229_3,hi229_3⟩:=at_T48 (Kd.N_reads' HO_8.out).2.2 0 p229 q229;cases e229;obtain⟨ce229,hce229,hMe229,hcc229⟩:=Kd.N_get HO_8.out z48 0 p229 (by first|exact q229|exact dt_|(have e_:=(Kd.N_reads' HO_8.out).1;omega));obtain⟨ua229_0,uc229_0,ua229_3,uc229_3,rfl,ul229_0,ge229_0,ul229_3,ge229_3⟩:=k48_openF hMe229;have hv229_0:=hcc229 0 _ rfl;(rw[Nat.add_zero] at hv229_0);replace hv229_0:=Option.some.inj (hv229_0.symm.trans hx229_0);(injection hv229_0 with hva_ hvn_ hvc_);(rw[hva_] at ge229_0);(rw[hvc_] at ul229_0);have HL229_0:=Aside0.mk (show Kd.V k45 45 _ w.heap.size _ _ ((rd_T48 t219 0).f0) from Kd.V_mk ul229_0 ge229_0);clear hva_ hvn_ hvc_ ge229_0 ul229_0;have hv229_3:=hcc229 3 _ rfl;(rw[add_field _ _ 3 (by omega)] at hv229_3);replace hv229_3:=Option.some.inj (hv229_3.symm.trans hx229_3);(injection hv229_3 with hva_ hvn_ hvc_);(rw[hva_] at ge229_3);(rw[hvc_] at ul229_3);have HL229_3:=Aside0.mk (show Kd.V k57 57 _ w.heap.size _ _ ((rd_T48 t219 0).f2) from Kd.V_mk ul229_3 ge229_3);clear hva_ hvn_ hvc_ ge229_3 ul229_3;clear hcc229 hce229;have qi229:(0 < t219.length)=True:=eq_true (by omega);(try rw[show ((0:Int)).toNat=0 from rfl] at hx229_0);(try rw[show 0 * 4=0 from rfl] at hx229_0);(try rw[Addr.add_zero'] at hx229_0);(try rw[show ((0:Int)).toNat=0 from rfl] at hx229_1);(try rw[show 0 * 4=0 from rfl] at hx229_1);(try rw[Addr.add_zero'] at hx229_1);(try rw[show ((0:Int)).toNat=0 from rfl] at hx229_2);(try rw[show 0 * 4=0 from rfl] at hx229_2);(try rw[Addr.add_zero'] at hx229_2);(try rw[show ((0:Int)).toNat=0 from rfl] at hx229_3);(try rw[show 0 * 4=0 from rfl] at hx229_3);(try rw[Addr.add_zero'] at hx229_3);have HR229_0:=Aside0.mk hi229_0;have HC229_0:=Aside0.mk hl229_0;clear hi229_0 hl229_0;have HR229_3:=Aside0.mk hi229_3;have HC229_3:=Aside0.mk hl229_3;clear hi229_3 hl229_3;replace p229:=eq_true p229;replace q229:=eq_true q229;(go_wp2_with (first|(go_at_call 37;(with_reducible refine(sennitref19_Same.calls k1 _ _ ((rd_T48 t219 0).f2) _ _ t215 false _ ?side1 ?side2 ?side3 ?side4 A21.out).mono ?_);(case side1=>exact pC_ HR229_3.out);(case side2=>exact HC229_3.out);(case side3=>repeat(first|exact(Kd.R_reads' HO_6.out).2.2|(with_reducible refine Kd.C_alloc ?_ _)|(with_reducible refine Kd.C_drewN ?_ _)|(with_reducible refine Kd.C_drew ?_)));(case side4=>exact(Kd.R_reads' HO_6.out).2.1);rintro e w' ⟨rfl,⟨nd,rfl⟩⟩)));go_ret;exact⟨by first|rfl|(simp[errW_none,errW_some] <;> rfl)|(simp[*,errW_none,errW_some] <;> rfl),bel_⟩)
      (· exact nx_ c20 H)
     ·
      (rw[if_neg c19] at H);have c19b0:((t219.length:Int) == 1)=false:=beq_eq_false_iff_ne.mpr c19;have c19b1:((t219.length:Int) != 1)=true:=bne_iff_ne.mpr c19
      by_cases c54:t213=true
      ·
       subst c54;have H1:=H;(rw[if_pos rfl] at H1);clear H;have H:=H1;clear H1
       by_cases c55:t222=0
       ·
        (rw[if_pos c55] at H);have c55b0:(t222 == 0)=true:=beq_iff_eq.mpr c55;have c55b1:(t222 != 0)=false:=bne_eq_false_iff_eq.mpr c55;clear c55
        by_cases c56:t226=1
        ·
         (rw[if_pos c56] at H);have c56b0:(t226 == 1)=true:=beq_iff_eq.mpr c56;have c56b1:(t226 != 1)=false:=bne_eq_false_iff_eq.mpr c56;clear c56
         by_cases c57:(t223.length:Int)=0
         ·
          (rw[if_pos c57] at H);have c57b0:((t223.length:Int) == 0)=true:=beq_iff_eq.mpr c57;have c57b1:((t223.length:Int) != 0)=false:=bne_eq_false_iff_eq.mpr c57;clear c57
          by_cases c58:x12_1=true
          (· subst c58;have H1:=H;(rw[if_pos rfl] at H1);clear H;have H:=H1;clear H1;obtain rfl:=Option.some.inj H;obtain⟨Ao59,co59,eo59⟩:=Kd.N_slice HO_8.out;subst eo59;obtain⟨Ao60,co60,eo60⟩:=Kd.N_slice HO_10.out;subst eo60;go_wp2;go_ret;exact⟨by first|rfl|(simp[errW_none,errW_some] <;> rfl)|(simp[*,errW_none,errW_some] <;> rfl),bel_⟩);(· replace c58:=Bool.eq_false_iff.mpr c58;subst c58;have H1:=H;(rw[if_neg (show ¬ (false=true) by decide)] at H1);clear H;have H:=H1;clear H1;obtain rfl:=Option.some.inj H;obtain⟨Ao61,co61,eo61⟩:=Kd.N_slice HO_8.out;subst eo61;obtain⟨Ao62,co62,eo62⟩:=Kd.N_slice HO_10.out;subst eo62;go_wp2;go_ret;exact⟨by first|rfl|(simp[errW_none,errW_some] <;> rfl)|(simp[*,errW_none,errW_some] <;> rfl),bel_⟩)
         (· (rw[if_neg c57] at H);have c57b0:((t223.length:Int) == 0)=false:=beq_eq_false_iff_ne.mpr c57;have c57b1:((t223.length:Int) != 0)=true:=bne_iff_ne.mpr c57;(have c57b2 : ¬ (t223=[]):=fun h_=>c57 (by rw[h_];rfl));obtain rfl:=Option.some.inj H;obtain⟨Ao63,co63,eo63⟩:=Kd.N_slice HO_8.out;subst eo63;obtain⟨Ao64,co64,eo64⟩:=Kd.N_slice HO_10.out;subst eo64;go_wp2;go_ret;exact⟨by first|rfl|(simp[errW_none,errW_some] <;> rfl)|(simp[*,errW_none,errW_some] <;> rfl),bel_⟩)
        (· (rw[if_neg c56] at H);have c56b0:(t226 == 1)=false:=beq_eq_false_iff_ne.mpr c56;have c56b1:(t226 != 1)=true:=bne_iff_ne.mpr c56;obtain rfl:=Option.some.inj H;obtain⟨Ao65,co65,eo65⟩:=Kd.N_slice HO_8.out;subst eo65;go_wp2;go_ret;exact⟨by first|rfl|(simp[errW_none,errW_some] <;> rfl)|(simp[*,errW_none,errW_some] <;> rfl),bel_⟩)
       (· (rw[if_neg c55] at H);have c55b0:(t222 == 0)=false:=beq_eq_false_iff_ne.mpr c55;have c55b1:(t222 != 0)=true:=bne_iff_ne.mpr c55;obtain rfl:=Option.some.inj H;obtain⟨Ao66,co66,eo66⟩:=Kd.N_slice HO_8.out;subst eo66;go_wp2;go_ret;exact⟨by first|rfl|(simp[errW_none,errW_some] <;> rfl)|(simp[*,errW_none,errW_some] <;> rfl),bel_⟩)
      (· replace c54:=Bool.eq_false_iff.mpr c54;subst c54;have H1:=H;(rw[if_neg (show ¬ (false=true) by decide)] at H1);clear H;have H:=H1;clear H1;obtain rfl:=Option.some.inj H;obtain⟨Ao67,co67,eo67⟩:=Kd.N_slice HO_8.out;subst eo67;go_wp2;go_ret;exact⟨by first|rfl|(simp[errW_none,errW_some] <;> rfl)|(simp[*,errW_none,errW_some] <;> rfl),bel_⟩)
 (· replace c5:=Bool.eq_false_iff.mpr c5;subst c5;have H1:=H;(rw[if_neg (show ¬ (false=true) by decide)] at H1);clear H;have H:=H1;clear H1;obtain rfl:=Option.some.inj H;go_enter Tryd.func13,Tryd.ntmps13;(go_wp2_with (first|((with_reducible refine gate_callee (f:=26) rfl ?_);refine goesL_ (some 15) rfl rfl Tryd.func26 (by kernel_rfl) rfl #[] rfl am_ ?_;(with_reducible refine(sennitlaw21_awake.calls k  t213 _ A3.out).mono ?_);rintro e w68 ⟨rfl,hb⟩;refine⟨_,rfl,?_⟩;replace HB:=Aside0.mk (below_step bel_ hb);(try clear hb);(try clear hb2);(try clear hk);(try clear hi))|((with_reducible refine gate_callee (f:=22) rfl ?_);refine goesL_ (some 18) rfl rfl Tryd.func22 (by kernel_rfl) rfl #[.slice A0 l0.length c0, .slice A1 l1.length c1] rfl am_ ?_;(with_reducible refine(sennitref20_May.calls k _ _ l0 _ _ l1 false _ ?side1 ?side2 ?side3 ?side4 A4.out).mono ?_);(case side1=>repeat(first|exact(Kd.C_below HR0.out HB.out)|(with_reducible refine Kd.C_alloc ?_ _)|(with_reducible refine Kd.C_drewN ?_ _)|(with_reducible refine Kd.C_drew ?_)));(case side2=>exact HC0.out);(case side3=>repeat(first|exact(Kd.C_below HR1.out HB.out)|(with_reducible refine Kd.C_alloc ?_ _)|(with_reducible refine Kd.C_drewN ?_ _)|(with_reducible refine Kd.C_drew ?_)));(case side4=>exact HC1.out);rintro e w' ⟨rfl,⟨nd,rfl⟩⟩;refine⟨_,rfl,?_⟩)));go_ret;exact⟨by first|rfl|(simp[errW_none,errW_some] <;> rfl)|(simp[*,errW_none,errW_some] <;> rfl),bel_⟩)
end Go.Proofs.YthcnfflhejogfaaDoor.X
namespace Go.Proofs.YthcnfflhejogfaaDoor.X
open Go.RowKit Go.Proofs.YthcnfflhejogfaaDoorW.PrintWords Go.Proofs.YthcnfflhejogfaaDoorW.PrintLast Go.Proofs.YthcnfflhejogfaaDoorW.PrintMore
abbrev ApiRow:=S57
theorem apiRow_ext {x y:ApiRow} (h0:x.f0=y.f0) (h1:x.f1=y.f1):x=y:=by
 (cases x;cases y;cases h0;cases h1;rfl)
instance apiRowDec:DecidableEq ApiRow:=fun x y=>decidable_of_iff (x.f0=y.f0∧x.f1=y.f1) ⟨fun h=>apiRow_ext h.1 h.2,fun h=>by rw[h];exact⟨rfl,rfl⟩⟩
theorem index45_cases (u:List UInt8):(¬ (45:UInt8) ∈ u∧Lib.indexByte u 45 = -1)∨((45:UInt8) ∈ u∧0≤Lib.indexByte u 45):=by
 induction u with
 | nil=>left;simp[Lib.indexByte]
 | cons x xs ih =>
  simp only[Lib.indexByte,List.mem_cons]
  by_cases e:x=45
  (· (right;simp[e]))
  ·
   (have e':(x == 45)=false:=by simp[e]);(have e2 : ¬ (45:UInt8)=x:=fun h=>e h.symm);rw[e']
   rcases ih with ⟨h1,h2⟩|⟨h1,h2⟩
   (· (left;simp[h1,h2,e2]));(· right;refine⟨.inr h1,?_⟩;rw[if_neg (by decide),if_neg (by simp;omega)];omega)
theorem index45 (u:List UInt8):decide (0≤Lib.indexByte u 45)=decide ((45:UInt8) ∈ u):=by
 rw[decide_eq_decide]
 rcases index45_cases u with ⟨h1,h2⟩|⟨h1,h2⟩
 (· simp[h1,h2]);(· simp[h1,h2])
theorem byte45 (c:UInt8):((c.toNat:Int)=45)↔c=45:=by
 constructor;(· intro h;(have:c.toNat=45:=by omega);exact UInt8.toNat_inj.1 this);(· (rintro rfl;rfl))
theorem lostB_mem (s:ByteArray):lostB s=decide ((45:UInt8) ∈ s.data.toList):=index45 _
section
variable {R:List ApiRow}
end
theorem ref_Same19 (a b:List ApiRow) (hm:a.length≤1000000):Gives (fun k=>sennitref19_Same.f k a b) (decide (a=b)):=by
 have hl:a.length=b.length → ∀ (r i:Nat),i+r=a.length→Gives (fun k=>sennitref19_Same.l0 k a b (i:Int)) (decide (a.drop i=b.drop i)):=by
  intro hab r
  induction r with
  | zero =>
   intro i hi;(refine Gives.of fun k=>?_);show sennitref19_Same.l0 (k+1) a b (i:Int)=_;rw[sennitref19_Same.l0,if_neg (by omega),List.drop_of_length_le (by omega),List.drop_of_length_le (by omega)];simp
  | succ r ih =>
   intro i hi;have ea:rd_T57 a (i:Int)=a[i]:=getN (by omega);have eb:rd_T57 b (i:Int)=b[i]:=getN (by omega);have ha:=dropCons (l:=a) (i:=i) (by omega);have hb:=dropCons (l:=b) (i:=i) (by omega)
   have eq:(!((a[i].f0.toList == b[i].f0.toList)) || (!((a[i].f1.toList == b[i].f1.toList)))) = !decide (a[i]=b[i]):=by
    rw[strBeq,strBeq]
    by_cases e1:a[i].f0=b[i].f0
    ·
     by_cases e2:a[i].f1=b[i].f1
     (· have:a[i]=b[i]:=apiRow_ext e1 e2;(rw[decide_eq_true e1,decide_eq_true e2,decide_eq_true this];rfl));(· (have : ¬ a[i]=b[i]:=fun e=>e2 (by rw[e]));(rw[decide_eq_true e1,decide_eq_false e2,decide_eq_false this];rfl))
    (· (have : ¬ a[i]=b[i]:=fun e=>e1 (by rw[e]));(rw[decide_eq_false e1,decide_eq_false this];rfl))
   by_cases e:a[i]=b[i]
   ·
    (refine((ih (i+1) (by omega)).eq ?_).step fun k=>?_);(· simp only[ha,hb,e,List.cons.injEq,true_and]);(· show sennitref19_Same.l0 (k+1) a b (i:Int)=_;rw[sennitref19_Same.l0,if_pos (by omega),if_pos (by omega),if_pos (by omega),ea,eb,eq,decide_eq_true e,if_neg (by decide),gw1 (by omega)])
   (· (refine Gives.of fun k=>?_);show sennitref19_Same.l0 (k+1) a b (i:Int)=_;rw[sennitref19_Same.l0,if_pos (by omega),if_pos (by omega),if_pos (by omega),ea,eb,eq,decide_eq_false e,if_pos (by decide)];simp only[ha,hb,e,List.cons.injEq,false_and,decide_false])
 by_cases h:a.length=b.length
 (· (refine(hl h a.length 0 (by omega)).same fun k=>?_);show sennitref19_Same.f k a b=_;(rw[sennitref19_Same.f,if_pos (by omega)];rfl));(· (refine Gives.pure fun k=>?_);show sennitref19_Same.f k a b=_;(have : ¬ a=b:=fun e=>h (by rw[e]));rw[sennitref19_Same.f,if_neg (by omega),decide_eq_false this])
theorem passN_count : ∀ (rows:List RowH) (n:Int),passN rows n=n+((rows.filter (fun x => !lostB x.f0)).length:Int)
 | [],n=>by simp[passN]
 | x :: rows,n=>by
  show passN rows (n+oneB (!lostB x.f0))=_;rw[passN_count rows,List.filter_cons]
  cases h : !lostB x.f0 with
  | true=>rw[if_pos rfl,List.length_cons];simp only[oneB,if_true];omega
  | false=>rw[if_neg (by decide)];simp only[oneB,Bool.false_eq_true,if_false];omega
theorem ctN_eq (rows:List RowH) (f:Nat):ctN rows f=(((rows.take f).filter (fun x => !lostB x.f0)).length:Int):=by
 show passN (rows.take f) 0=_;(rw[passN_count];omega)
theorem cut_split {rows:List RowH} {f t:Nat} (h:f≤t):rows.take t=rows.take f ++ cutR rows f t:=by
 have:=(List.take_append_drop f (rows.take t)).symm
 rwa [List.take_take,Nat.min_eq_left h] at this
theorem filter_len_cut {rows:List RowH} {f t:Nat} (h:f≤t) (p:RowH→Bool):((rows.take f).filter p).length+((cutR rows f t).filter p).length=((rows.take t).filter p).length:=by
 rw[cut_split h,List.filter_append,List.length_append]
end Go.Proofs.YthcnfflhejogfaaDoor.X
namespace Go.Proofs.YthcnfflhejogfaaDoor.X.T20
open Go.RowKit Go.Proofs.YthcnfflhejogfaaDoorW.PrintWords Go.Proofs.YthcnfflhejogfaaDoorW.PrintLast Go.Proofs.YthcnfflhejogfaaDoorW.PrintMore
section InternMath_sec
def place (s:ByteArray):List ByteArray→Nat
  | []=>0
  | x :: xs=>if x=s then 0 else place s xs+1
def addT (t:List ByteArray) (s:ByteArray):List ByteArray:=if place s t < t.length then t else t ++ [s]
theorem place_le (s:ByteArray) : ∀ t,place s t≤t.length
 | []=>Nat.le_refl _
 | x :: xs=>by
  have:=place_le s xs;simp only[place,List.length_cons];(split <;> omega)
theorem place_get (s:ByteArray) : ∀ {t:List ByteArray} (h:place s t < t.length),t[place s t]=s
 | [],h=>by simp[place] at h
 | x :: xs,h=>by
  by_cases e:x=s
  (· simp[place,e]);(· (have h':place s xs < xs.length:=by simpa [place,e] using h);simp only[place,e,if_false,List.getElem_cons_succ];exact place_get s h')
theorem place_mem (s:ByteArray) : ∀ {t:List ByteArray},s ∈ t↔place s t < t.length
 | []=>by simp[place]
 | x :: xs=>by
  by_cases e:x=s
  (· simp[place,e]);(· (have e' : ¬ s=x:=fun h=>e h.symm);simp[place,e,e',place_mem s (t:=xs)])
theorem place_append (s:ByteArray) : ∀ {t:List ByteArray} (u:List ByteArray),place s t < t.length→place s (t ++ u)=place s t
 | [],u,h=>by simp[place] at h
 | x :: xs,u,h=>by
  by_cases e:x=s
  (· simp[place,e]);(· (have h':place s xs < xs.length:=by simpa [place,e] using h);simp[place,e,place_append s u h'])
theorem place_new (s:ByteArray) : ∀ {t:List ByteArray} (u:List ByteArray),¬ place s t < t.length→place s (t ++ s :: u)=t.length
 | [],u,h=>by simp[place]
 | x :: xs,u,h=>by
  by_cases e:x=s
  (· (simp[place,e] at h));(· (have h' : ¬ place s xs < xs.length:=by simpa [place,e] using h);simp[place,e,place_new s u h'])
theorem place_not {s:ByteArray} {t:List ByteArray} (h : ¬ place s t < t.length):place s t=t.length:=by
 (have:=place_le s t;omega)
theorem addT_length (t:List ByteArray) (s:ByteArray):t.length≤(addT t s).length∧(addT t s).length≤t.length+1:=by
 (unfold addT;split <;> simp)
def idsOne:List ByteArray→List ByteArray→List ByteArray × List Int
  | t,[]=>(t,[])
  | t,s :: l=>((idsOne (addT t s) l).1,(place s t:Int) :: (idsOne (addT t s) l).2)
def idsMany:List ByteArray→List (List ByteArray)→List (List Int)
  | _,[]=>[]
  | t,l :: ls=>(idsOne t l).2 :: idsMany (idsOne t l).1 ls
def idsAll (files:List (List ByteArray)):List (List Int):=idsMany [] files
theorem idsOne_length : ∀ (t l:List ByteArray),(idsOne t l).2.length=l.length
 | t,[]=>rfl
 | t,s :: l=>by simp[idsOne,idsOne_length (addT t s) l]
theorem idsOne_snoc : ∀ (t l:List ByteArray) (s:ByteArray),idsOne t (l ++ [s])=(addT (idsOne t l).1 s,(idsOne t l).2 ++ [(place s (idsOne t l).1:Int)])
 | t,[],s=>by simp[idsOne]
 | t,x :: l,s=>by simp[idsOne,idsOne_snoc (addT t x) l s]
theorem idsOne_table_le : ∀ (t l:List ByteArray),(idsOne t l).1.length≤t.length+l.length
 | t,[]=>by simp[idsOne]
 | t,s :: l=>by
  have h1:=idsOne_table_le (addT t s) l;have h2:=(addT_length t s).2;(simp only[idsOne,List.length_cons];omega)
theorem idsMany_length : ∀ (t:List ByteArray) (ls:List (List ByteArray)),(idsMany t ls).length=ls.length
 | _,[]=>rfl
 | t,l :: ls=>by simp[idsMany,idsMany_length (idsOne t l).1 ls]
def tabOf:List ByteArray→List (List ByteArray)→List ByteArray
  | t,[]=>t
  | t,l :: ls=>tabOf (idsOne t l).1 ls
theorem tabOf_snoc : ∀ (t:List ByteArray) (ls:List (List ByteArray)) (l:List ByteArray),tabOf t (ls ++ [l])=(idsOne (tabOf t ls) l).1
 | t,[],l=>rfl
 | t,x :: ls,l=>tabOf_snoc (idsOne t x).1 ls l
theorem idsMany_snoc : ∀ (t:List ByteArray) (ls:List (List ByteArray)) (l:List ByteArray),idsMany t (ls ++ [l])=idsMany t ls ++ [(idsOne (tabOf t ls) l).2]
 | t,[],l=>rfl
 | t,x :: ls,l=>by simp[idsMany,tabOf,idsMany_snoc (idsOne t x).1 ls l]
end InternMath_sec
section LcsMath_sec
def lcsL:List Int→List Int→Nat
  | [],_=>0
  | _ :: _,[]=>0
  | x :: xs,y :: ys=>if x=y then lcsL xs ys+1 else max (lcsL xs (y :: ys)) (lcsL (x :: xs) ys)
  termination_by a b=>a.length+b.length
@[simp] theorem lcsL_nil_left (b:List Int):lcsL [] b=0:=by unfold lcsL;rfl
@[simp] theorem lcsL_nil_right (a:List Int):lcsL a []=0:=by cases a <;> (unfold lcsL;rfl)
theorem lcsL_cons (x y:Int) (xs ys:List Int):lcsL (x :: xs) (y :: ys)=if x=y then lcsL xs ys+1 else max (lcsL xs (y :: ys)) (lcsL (x :: xs) ys):=by
 rw[lcsL]
def matchFrom:List Int→List Int→Nat→List Int
  | [],_,_=>[]
  | _ :: xs,[],j => -1 :: matchFrom xs [] j
  | x :: xs,y :: ys,j=>if x=y then (j:Int) :: matchFrom xs ys (j+1) else if lcsL (x :: xs) ys≤lcsL xs (y :: ys) then -1 :: matchFrom xs (y :: ys) j else matchFrom (x :: xs) ys (j+1)
  termination_by a b _=>a.length+b.length
def matchOf (a b:List Int):List Int:=matchFrom a b 0
theorem lcsL_le (a b s:List Int):s.Sublist a→s.Sublist b→s.length≤lcsL a b:=by
 match a,b with
 | [],b=>intro h _;simp at h;simp[h]
 | x :: xs,[]=>intro _ h;simp at h;simp[h]
 | x :: xs,y :: ys =>
  intro h h';rw[lcsL_cons]
  by_cases e:x=y
  ·
   subst e;rw[if_pos rfl]
   cases s with
   | nil=>simp
   | cons z zs =>
    have h1:zs.Sublist xs:=by
     cases h with
     | cons _ h=>exact(List.sublist_cons_self z zs).trans h
     | cons_cons _ h=>exact h
    have h2:zs.Sublist ys:=by
     cases h' with
     | cons _ h=>exact(List.sublist_cons_self z zs).trans h
     | cons_cons _ h=>exact h
    have:=lcsL_le xs ys zs h1 h2;(simp;omega)
  ·
   rw[if_neg e]
   cases h with
   | cons _ h=>have:=lcsL_le xs (y :: ys) s h h';omega
   | cons_cons _ h =>
    cases h' with
    | cons _ h'=>have:=lcsL_le (x :: xs) ys _ (h.cons_cons x) h';omega
    | cons_cons _ h'=>exact absurd rfl e
 termination_by a.length+b.length
theorem lcsL_ex (a b:List Int) : ∃ s:List Int,s.Sublist a∧s.Sublist b∧s.length=lcsL a b:=by
 match a,b with
 | [],b=>exact⟨[],by simp,by simp,by simp⟩
 | x :: xs,[]=>exact⟨[],by simp,by simp,by simp⟩
 | x :: xs,y :: ys =>
  rw[lcsL_cons]
  by_cases e:x=y
  (· subst e;rw[if_pos rfl];obtain⟨s,h1,h2,h3⟩:=lcsL_ex xs ys;exact⟨x :: s,h1.cons_cons x,h2.cons_cons x,by simp[h3]⟩)
  ·
   rw[if_neg e];obtain⟨s,h1,h2,h3⟩:=lcsL_ex xs (y :: ys);obtain⟨s',h1',h2',h3'⟩:=lcsL_ex (x :: xs) ys
   rcases Nat.le_total (lcsL (x :: xs) ys) (lcsL xs (y :: ys)) with h|h
   (· exact⟨s,h1.cons x,h2,by omega⟩);(· exact⟨s',h1',h2'.cons y,by omega⟩)
 termination_by a.length+b.length
theorem lcsL_unique {a b:List Int} {n:Nat} (h1 : ∀ s:List Int,s.Sublist a→s.Sublist b→s.length≤n) (h2 : ∃ s:List Int,s.Sublist a∧s.Sublist b∧s.length=n):lcsL a b=n:=by
 obtain⟨s,h3,h4,h5⟩:=lcsL_ex a b;obtain⟨t,h6,h7,h8⟩:=h2;have:=h1 s h3 h4;have:=lcsL_le a b t h6 h7;omega
theorem lcsL_comm (a b:List Int):lcsL a b=lcsL b a :=
  lcsL_unique (fun s h h'=>lcsL_le b a s h' h) (let ⟨s,h1,h2,h3⟩:=lcsL_ex b a;⟨s,h2,h1,h3⟩)
theorem lcsL_le_left (a b:List Int):lcsL a b≤a.length:=let ⟨_,h1,_,h3⟩:=lcsL_ex a b;h3 ▸ h1.length_le
theorem lcsL_step_left (x:Int) (a b:List Int):lcsL (x :: a) b≤lcsL a b+1:=by
 obtain⟨s,h1,h2,h3⟩:=lcsL_ex (x :: a) b
 cases h1 with
 | cons _ h=>have:=lcsL_le a b s h h2;omega
 | @cons_cons s' _ _ h =>
  have:=lcsL_le a b s' h ((List.sublist_cons_self x s').trans h2);(simp at h3);omega
theorem lcsL_step_right (y:Int) (a b:List Int):lcsL a (y :: b)≤lcsL a b+1:=by
 (rw[lcsL_comm,lcsL_comm a b];exact lcsL_step_left y b a)
theorem matchFrom_nil (b:List Int) (j:Nat):matchFrom [] b j=[]:=by unfold matchFrom;rfl
theorem matchFrom_none (x:Int) (xs:List Int) (j:Nat):matchFrom (x :: xs) [] j = -1 :: matchFrom xs [] j:=by rw[matchFrom]
theorem matchFrom_cons (x y:Int) (xs ys:List Int) (j:Nat):matchFrom (x :: xs) (y :: ys) j=if x=y then (j:Int) :: matchFrom xs ys (j+1) else if lcsL (x :: xs) ys≤lcsL xs (y :: ys) then -1 :: matchFrom xs (y :: ys) j else matchFrom (x :: xs) ys (j+1):=by rw[matchFrom]
theorem matchFrom_rest (a:List Int) (j:Nat):matchFrom a [] j=List.replicate a.length (-1):=by
 induction a with
 | nil=>rw[matchFrom_nil];rfl
 | cons x a ih=>rw[matchFrom_none,ih];rfl
theorem matchFrom_length (a b:List Int) (j:Nat):(matchFrom a b j).length=a.length:=by
 match a,b with
 | [],b=>simp[matchFrom_nil]
 | x :: xs,[]=>simp[matchFrom_rest]
 | x :: xs,y :: ys =>
  rw[matchFrom_cons];split;(· simp[matchFrom_length xs ys])
  ·
   split;(· simp[matchFrom_length xs (y :: ys)]);(· exact matchFrom_length (x :: xs) ys _)
 termination_by a.length+b.length
def Rises (a b:List Int) (j:Nat):List Int→Nat→Prop
  | [],n=>n=0∧True
  | m :: ms,n=>(m = -1∧Rises a.tail b j ms n)∨(∃ k n',m=((j+k:Nat):Int)∧n=n'+1∧b[k]? = a.head? ∧ a≠[]∧Rises a.tail (b.drop (k+1)) (j+k+1) ms n')
theorem rises_shift {a b:List Int} {j:Nat} {y:Int} : ∀ {ms:List Int} {n:Nat},ms.length=a.length→Rises a b (j+1) ms n→Rises a (y :: b) j ms n:=by
 intro ms
 induction ms generalizing a with
 | nil=>intro n _ h;exact h
 | cons m ms ih =>
  intro n hl h
  rcases h with ⟨h1,h2⟩|⟨k,n',h1,h2,h3,h4,h5⟩
  (· exact .inl ⟨h1,ih (by simp at hl ⊢;omega) h2⟩);(· exact .inr ⟨k+1,n',by rw[h1];congr 1;omega,h2,by simpa using h3,h4,by rw[show j+(k+1)+1=j+1+k+1 from by omega];simpa using h5⟩)
theorem matchFrom_rises (a b:List Int) (j:Nat):Rises a b j (matchFrom a b j) (lcsL a b):=by
 match a,b with
 | [],b=>rw[matchFrom_nil,lcsL_nil_left];exact⟨rfl,trivial⟩
 | x :: xs,[] =>
  rw[matchFrom_none,lcsL_nil_right];have:=matchFrom_rises xs [] j;(rw[lcsL_nil_right] at this);exact .inl ⟨rfl,this⟩
 | x :: xs,y :: ys =>
  rw[matchFrom_cons,lcsL_cons]
  by_cases e:x=y
  (· subst e;rw[if_pos rfl,if_pos rfl];exact .inr ⟨0,lcsL xs ys,by simp,rfl,by simp,by simp,by simpa using matchFrom_rises xs ys (j+1)⟩)
  ·
   rw[if_neg e,if_neg e]
   by_cases h:lcsL (x :: xs) ys≤lcsL xs (y :: ys)
   (· rw[if_pos h,Nat.max_eq_left h];exact .inl ⟨rfl,matchFrom_rises xs (y :: ys) j⟩);(· rw[if_neg h,Nat.max_eq_right (by omega)];exact rises_shift (matchFrom_length _ _ _) (matchFrom_rises (x :: xs) ys (j+1)))
 termination_by a.length+b.length
end LcsMath_sec
section Lcs4_sec
open Go.RowKit Go.Proofs.YthcnfflhejogfaaDoorW.PrintWords Go.Proofs.YthcnfflhejogfaaDoorW.PrintLast Go.Proofs.YthcnfflhejogfaaDoorW.PrintMore
section
variable {w W:World} {g g3 g0 g1 gs:Nat} {sa sb x2 x3 x4:Value} {nm m:Nat} {L0 L1 S:List Int}
end
theorem place_div {m i j:Nat} (hj:j < m):(i * m+j) / m=i∧(i * m+j) % m=j:=by
 constructor;(· rw[Nat.mul_comm,Nat.mul_add_div (by omega),Nat.div_eq_of_lt hj,Nat.add_zero]);(· rw[Nat.mul_comm,Nat.mul_add_mod,Nat.mod_eq_of_lt hj])
theorem place_lt {n m i j:Nat} (hi:i < n) (hj:j < m):i * m+j < n * m:=by
 have:(i+1) * m≤n * m:=Nat.mul_le_mul_right _ hi;(rw[Nat.succ_mul] at this);omega
theorem drop_cons' {l:List Int} {i:Nat} {x:Int} (h:l[i]? = some x):l.drop i=x :: l.drop (i+1):=by
 obtain⟨hl,rfl⟩:=List.getElem?_eq_some_iff.1 h;exact List.drop_eq_getElem_cons hl
section
variable {a b L0 L1 S:List Int} {i j:Nat} {x y:Int}
theorem lcs_eq (hx:a[i]? = some x) (hy:b[j]? = some y) (e:x=y):lcsL (a.drop i) (b.drop j)=lcsL (a.drop (i+1)) (b.drop (j+1))+1:=by
 rw[drop_cons' hx,drop_cons' hy,lcsL_cons,if_pos e]
theorem lcs_ne (hx:a[i]? = some x) (hy:b[j]? = some y) (e : ¬ x=y):lcsL (a.drop i) (b.drop j)=max (lcsL (a.drop (i+1)) (b.drop j)) (lcsL (a.drop i) (b.drop (j+1))):=by
 rw[drop_cons' hx,drop_cons' hy,lcsL_cons,if_neg e]
end
end Lcs4_sec
section Gap1_sec
open Go.RowKit Go.Proofs.YthcnfflhejogfaaDoorW.PrintWords Go.Proofs.YthcnfflhejogfaaDoorW.PrintLast Go.Proofs.YthcnfflhejogfaaDoorW.PrintMore
abbrev RowG:=List Int × ByteArray
end Gap1_sec
section Gap2_sec
open Go.RowKit Go.Proofs.YthcnfflhejogfaaDoorW.PrintWords Go.Proofs.YthcnfflhejogfaaDoorW.PrintLast Go.Proofs.YthcnfflhejogfaaDoorW.PrintMore
def noMarks:List Int:=List.replicate 16 0
def oneRow (col:Nat) (s:ByteArray):RowG:=(noMarks.set col 1,s)
end Gap2_sec
section GapMath_sec
def Up (hi:Nat):Nat→List Int→Prop
  | lo,[]=>lo≤hi
  | lo,m :: ms=>(m = -1∧Up hi lo ms)∨(∃ k:Nat,m=(k:Int)∧lo≤k∧k < hi∧Up hi (k+1) ms)
theorem Up.le {hi:Nat} : ∀ {ms:List Int} {lo:Nat},Up hi lo ms→lo≤hi
 | [],lo,h=>h
 | m :: ms,lo,h=>by
  rcases h with ⟨_,h⟩|⟨k,_,h1,h2,_⟩
  (· exact Up.le h);(· omega)
theorem up_of_rises {a b:List Int} : ∀ {ms:List Int} {a b:List Int} {j n:Nat},Rises a b j ms n→Up (j+b.length) j ms
 | [],a,b,j,n,h=>by simp[Up]
 | m :: ms,a,b,j,n,h=>by
  rcases h with ⟨h1,h2⟩|⟨k,n',h1,_,h3,h4,h5⟩
  (· exact .inl ⟨h1,up_of_rises (a:=[]) (b:=[]) h2⟩)
  ·
   have hk:k < b.length:=by
    rcases Nat.lt_or_ge k b.length with h|h
    (· exact h)
    ·
     (rw[List.getElem?_eq_none h] at h3)
     cases a with
     | nil=>exact absurd rfl h4
     | cons x xs=>cases h3
   have:=up_of_rises (a:=[]) (b:=[]) h5;(rw[List.length_drop] at this);refine .inr ⟨j+k,h1,by omega,by omega,?_⟩
   rwa [show j+k+1+(b.length - (k+1))=j+b.length by omega] at this
theorem match_up (a b:List Int):Up b.length 0 (matchOf a b):=by
 have:=up_of_rises (a:=[]) (b:=[]) (matchFrom_rises a b 0)
 rwa [Nat.zero_add] at this
def comeGo (col:Nat) (list:List ByteArray):List Int→List RowG→Nat→List RowG
  | m :: ms,x :: rs,at_=>if 0≤m then ((list.take m.toNat).drop at_).map (oneRow col) ++ (x.1.set col 1,x.2) :: comeGo col list ms rs (m.toNat+1) else x :: comeGo col list ms rs at_
  | _,_,at_=>(list.drop at_).map (oneRow col)
def idsOf2 (rs:List RowG) (list:List ByteArray):List (List Int):=idsAll [rs.map (·.2),list]
def matchG (rs:List RowG) (list:List ByteArray):List Int:=matchOf ((idsOf2 rs list).getD 0 []) ((idsOf2 rs list).getD 1 [])
def comeF (col:Nat) (list:List ByteArray) (rs:List RowG):List RowG:=comeGo col list (matchG rs list) rs 0
theorem ids2_len (rs:List RowG) (list:List ByteArray):((idsOf2 rs list).getD 0 []).length=rs.length∧((idsOf2 rs list).getD 1 []).length=list.length:=by
 constructor;(· show (idsOne [] (rs.map (·.2))).2.length=_;rw[idsOne_length,List.length_map]);(· show (idsOne _ list).2.length=_;rw[idsOne_length])
theorem matchG_len (rs:List RowG) (list:List ByteArray):(matchG rs list).length=rs.length:=by
 rw[matchG,matchOf,matchFrom_length,(ids2_len rs list).1]
theorem matchG_up (rs:List RowG) (list:List ByteArray):Up list.length 0 (matchG rs list):=by
 have:=match_up ((idsOf2 rs list).getD 0 []) ((idsOf2 rs list).getD 1 [])
 rwa [(ids2_len rs list).2] at this
theorem comeGo_nil (col:Nat) (list:List ByteArray) (rs:List RowG) (a:Nat):comeGo col list [] rs a=(list.drop a).map (oneRow col):=by cases rs <;> rfl
theorem comeGo_no (col:Nat) (list:List ByteArray) (ms:List Int) (x:RowG) (rs:List RowG) (a:Nat):comeGo col list (-1 :: ms) (x :: rs) a=x :: comeGo col list ms rs a:=by
 rw[comeGo,if_neg (by decide)]
theorem comeGo_yes (col:Nat) (list:List ByteArray) (k:Nat) (ms:List Int) (x:RowG) (rs:List RowG) (a:Nat):comeGo col list ((k:Int) :: ms) (x :: rs) a=((list.take k).drop a).map (oneRow col) ++ (x.1.set col 1,x.2) :: comeGo col list ms rs (k+1):=by
 rw[comeGo,if_pos (by omega),Int.toNat_natCast]
theorem comeGo_len (col:Nat) (list:List ByteArray) : ∀ (ms:List Int) (rs:List RowG) (a:Nat),ms.length=rs.length→Up list.length a ms→(comeGo col list ms rs a).length≤rs.length+(list.length - a)
 | [],rs,a,h,_=>by
  (rw[comeGo_nil];simp)
 | m :: ms,[],a,h,_=>by simp at h
 | m :: ms,y :: rs,a,h,hu=>by
  (have h':ms.length=rs.length:=by simpa using h)
  rcases hu with ⟨rfl,hu⟩|⟨k,rfl,h1,h2,hu⟩
  (· have:=comeGo_len col list ms rs a h' hu;(rw[comeGo_no,List.length_cons,List.length_cons];omega));(· have:=comeGo_len col list ms rs (k+1) h' hu;rw[comeGo_yes];simp only[List.length_append,List.length_map,List.length_drop,List.length_take,List.length_cons];omega)
theorem comeF_len (col:Nat) (list:List ByteArray) (rs:List RowG):(comeF col list rs).length≤rs.length+list.length:=by
 have:=comeGo_len col list _ rs 0 (matchG_len rs list) (matchG_up rs list);(rw[comeF];omega)
end GapMath_sec
section Gap5_sec
open Go.RowKit Go.Proofs.YthcnfflhejogfaaDoorW.PrintWords Go.Proofs.YthcnfflhejogfaaDoorW.PrintLast Go.Proofs.YthcnfflhejogfaaDoorW.PrintMore
def markB (m:Int):UInt8:=if m=0 then 32 else 45
def rowOut (n:Nat) (x:RowG):S57:=⟨⟨((x.1.map markB).take n).toArray⟩,x.2⟩
end Gap5_sec
section PairMath_sec
theorem addT_self (t:List ByteArray) (s:ByteArray):s ∈ addT t s:=by
 (unfold addT;split);(· (rename_i h;exact(place_mem s).2 h));(· simp)
theorem addT_sub (t:List ByteArray) (s x:ByteArray) (h:x ∈ t):x ∈ addT t s:=by
 (unfold addT;split);(· exact h);(· simp[h])
theorem place_addT {t:List ByteArray} {s x:ByteArray} (h:x ∈ t):place x (addT t s)=place x t:=by
 (unfold addT;split);(· rfl);(· exact place_append x _ ((place_mem x).1 h))
theorem place_addT_self (t:List ByteArray) (s:ByteArray):place s (addT t s)=place s t:=by
 (unfold addT;split);(· rfl);(· (rename_i h;rw[place_new s [] h,place_not h]))
theorem place_inj {t:List ByteArray} {s s':ByteArray} (h:s ∈ t) (e:place s t=place s' t):s=s':=by
 have h1:=(place_mem s).1 h;(have h2:place s' t < t.length:=by omega);have e1:=place_get s h1;have e2:=place_get s' h2;rw[← e1,← e2]
 congr 1
def num (t:List ByteArray) (s:ByteArray):Int:=(place s t:Int)
theorem num_inj {t:List ByteArray} {s s':ByteArray} (h:s ∈ t) (e:num t s=num t s'):s=s':=place_inj h (by unfold num at e;omega)
theorem idsOne_spec : ∀ (t l:List ByteArray),(∀ x ∈ t,x ∈ (idsOne t l).1∧place x (idsOne t l).1=place x t)∧(∀ x ∈ l,x ∈ (idsOne t l).1)∧(idsOne t l).2=l.map (num (idsOne t l).1)
 | t,[]=>⟨fun x h=>⟨h,rfl⟩,fun x h=>by simp at h,rfl⟩
 | t,s :: l=>by
  obtain⟨h1,h2,h3⟩:=idsOne_spec (addT t s) l;have hs:=h1 s (addT_self t s);refine⟨fun x h=>?_,fun x h=>?_,?_⟩;(· have:=h1 x (addT_sub t s x h);exact⟨this.1,this.2.trans (place_addT h)⟩)
  ·
   rcases List.mem_cons.1 h with rfl|h
   (· exact hs.1);(· exact h2 x h)
  ·
   simp only[idsOne,List.map_cons];rw[h3]
   congr 1
   unfold num;rw[hs.2,place_addT_self]
theorem tabOf_spec : ∀ (t:List ByteArray) (ls:List (List ByteArray)),(∀ x ∈ t,x ∈ tabOf t ls∧place x (tabOf t ls)=place x t)∧(∀ l ∈ ls,∀ x ∈ l,x ∈ tabOf t ls)∧idsMany t ls=ls.map (fun l=>l.map (num (tabOf t ls)))
 | t,[]=>⟨fun x h=>⟨h,rfl⟩,fun x h=>by simp at h,rfl⟩
 | t,l :: ls=>by
  obtain⟨h1,h2,h3⟩:=tabOf_spec (idsOne t l).1 ls;obtain⟨g1,g2,g3⟩:=idsOne_spec t l;refine⟨fun x h=>?_,fun k hk x h=>?_,?_⟩;(· have:=h1 x (g1 x h).1;exact⟨this.1,this.2.trans (g1 x h).2⟩)
  ·
   rcases List.mem_cons.1 hk with rfl|hk
   (· exact(h1 x (g2 x h)).1);(· exact h2 k hk x h)
  ·
   simp only[idsMany,tabOf,List.map_cons];rw[h3,g3]
   congr 1
   (refine List.map_congr_left fun x hx=>?_);unfold num;rw[(h1 x (g2 x hx)).2]
theorem idsAll_map (ls:List (List ByteArray)):idsAll ls=ls.map (fun l=>l.map (num (tabOf [] ls))):=(tabOf_spec [] ls).2.2
theorem tabAll {ls:List (List ByteArray)} {l:List ByteArray} (hl:l ∈ ls) {x:ByteArray} (hx:x ∈ l):x ∈ tabOf [] ls:=(tabOf_spec [] ls).2.1 l hl x hx
theorem lcsL_map {α:Type} (f g:α→Int) (a b:List α) (h : ∀ x ∈ a,∀ y ∈ b,(f x=f y↔g x=g y)):lcsL (a.map f) (b.map f)=lcsL (a.map g) (b.map g):=by
 match a,b with
 | [],b=>simp
 | x :: xs,[]=>simp
 | x :: xs,y :: ys =>
  simp only[List.map_cons];rw[lcsL_cons,lcsL_cons];have h1:=lcsL_map f g xs ys (fun u hu v hv=>h u (by simp[hu]) v (by simp[hv]));have h2:=lcsL_map f g xs (y :: ys) (fun u hu v hv=>h u (by simp[hu]) v hv);have h3:=lcsL_map f g (x :: xs) ys (fun u hu v hv=>h u hu v (by simp[hv]));(simp only[List.map_cons] at h2 h3);rw[h1,h2,h3];have:=h x (by simp) y (by simp)
  by_cases e:f x=f y
  (· rw[if_pos e,if_pos (this.1 e)]);(· rw[if_neg e,if_neg (fun e'=>e (this.2 e'))])
 termination_by a.length+b.length
theorem matchFrom_map {α:Type} (f g:α→Int) (a b:List α) (j:Nat) (h : ∀ x ∈ a,∀ y ∈ b,(f x=f y↔g x=g y)):matchFrom (a.map f) (b.map f) j=matchFrom (a.map g) (b.map g) j:=by
 match a,b with
 | [],b=>simp[matchFrom_nil]
 | x :: xs,[]=>simp[matchFrom_rest]
 | x :: xs,y :: ys =>
  simp only[List.map_cons];rw[matchFrom_cons,matchFrom_cons];have l2:=lcsL_map f g xs (y :: ys) (fun u hu v hv=>h u (by simp[hu]) v hv);have l3:=lcsL_map f g (x :: xs) ys (fun u hu v hv=>h u hu v (by simp[hv]));have h1:=matchFrom_map f g xs ys (j+1) (fun u hu v hv=>h u (by simp[hu]) v (by simp[hv]));have h2:=matchFrom_map f g xs (y :: ys) j (fun u hu v hv=>h u (by simp[hu]) v hv);have h3:=matchFrom_map f g (x :: xs) ys (j+1) (fun u hu v hv=>h u hu v (by simp[hv]));(simp only[List.map_cons] at h2 h3 l2 l3);rw[h1,h2,h3,l2,l3];have:=h x (by simp) y (by simp)
  by_cases e:f x=f y
  (· rw[if_pos e,if_pos (this.1 e)]);(· rw[if_neg e,if_neg (fun e'=>e (this.2 e'))])
 termination_by a.length+b.length
def matchS (a b:List ByteArray):List Int:=matchOf (a.map (num (a ++ b))) (b.map (num (a ++ b)))
def lcsS (a b:List ByteArray):Nat:=lcsL (a.map (num (a ++ b))) (b.map (num (a ++ b)))
theorem num_iff {t:List ByteArray} {x y:ByteArray} (h:x ∈ t):num t x=num t y↔x=y:=⟨fun e=>num_inj h e,fun e=>by rw[e]⟩
theorem matchS_num {t:List ByteArray} {a b:List ByteArray} (h : ∀ x ∈ a,x ∈ t):matchOf (a.map (num t)) (b.map (num t))=matchS a b :=
  matchFrom_map _ _ a b 0 fun x hx y hy=>(num_iff (h x hx)).trans (num_iff (by simp[hx])).symm
theorem matchS_length (a b:List ByteArray):(matchS a b).length=a.length:=by rw[matchS,matchOf,matchFrom_length,List.length_map]
def Fits (list:List ByteArray):List Int→List ByteArray→Nat→Prop
  | [],[],lo=>lo≤list.length
  | m :: ms,s :: ss,lo=>(m = -1∧Fits list ms ss lo)∨(∃ k:Nat,m=(k:Int)∧lo≤k∧list[k]? = some s∧Fits list ms ss (k+1))
  | _,_,_=>False
theorem Fits.le {list:List ByteArray} : ∀ {ms:List Int} {ss:List ByteArray} {lo:Nat},Fits list ms ss lo→lo≤list.length
 | [],[],lo,h=>h
 | [],_ :: _,lo,h=>h.elim
 | _ :: _,[],lo,h=>h.elim
 | m :: ms,s :: ss,lo,h=>by
  rcases h with ⟨_,h⟩|⟨k,_,h1,_,h⟩
  (· exact Fits.le h);(· (have:=Fits.le h;omega))
theorem Fits.up {list:List ByteArray} : ∀ {ms:List Int} {ss:List ByteArray} {lo:Nat},Fits list ms ss lo→Up list.length lo ms
 | [],[],lo,h=>h
 | [],_ :: _,lo,h=>h.elim
 | _ :: _,[],lo,h=>h.elim
 | m :: ms,s :: ss,lo,h=>by
  rcases h with ⟨h1,h⟩|⟨k,h1,h2,h3,h⟩
  (· exact .inl ⟨h1,h.up⟩);(· exact .inr ⟨k,h1,h2,(List.getElem?_eq_some_iff.1 h3).1,h.up⟩)
theorem fits_of_rises {f:ByteArray→Int} {list:List ByteArray} : ∀ {ms:List Int} {a b:List ByteArray} {j n:Nat},list.drop j=b→j≤list.length→ms.length=a.length→(∀ x ∈ a,∀ y ∈ b,f x=f y→x=y)→Rises (a.map f) (b.map f) j ms n→Fits list ms a j
 | [],[],b,j,n,hb,hj,hl,hf,h=>hj
 | [],_ :: _,b,j,n,hb,hj,hl,hf,h=>by simp at hl
 | _ :: _,[],b,j,n,hb,hj,hl,hf,h=>by simp at hl
 | m :: ms,x :: a,b,j,n,hb,hj,hl,hf,h=>by
  (have hl':ms.length=a.length:=by simpa using hl)
  rcases h with ⟨h1,h2⟩|⟨k,n',h1,h2,h3,h4,h5⟩
  (· exact .inl ⟨h1,fits_of_rises hb hj hl' (fun u hu=>hf u (by simp[hu])) h2⟩)
  ·
   (simp only[List.map_cons,List.head?_cons,List.getElem?_map,Option.map_eq_some_iff] at h3);obtain⟨y,hy,e⟩:=h3;have hym:y ∈ b:=List.mem_of_getElem? hy;have:=hf x (by simp) y hym e.symm;subst this;(rw[← hb,List.getElem?_drop] at hy);have hlt:=(List.getElem?_eq_some_iff.1 hy).1;refine .inr ⟨j+k,h1,by omega,hy,fits_of_rises (b:=b.drop (k+1)) (n:=n') ?_ (by omega) hl' (fun u hu v hv=>hf u (by simp[hu]) v (List.mem_of_mem_drop hv)) ?_⟩;(· (rw[← hb,List.drop_drop];rfl));(· (rw[List.map_drop];exact h5))
theorem matchS_fits (a b:List ByteArray):Fits b (matchS a b) a 0 :=
  fits_of_rises (f:=num (a ++ b)) (n:=lcsS a b) (List.drop_zero ..) (Nat.zero_le _) (matchS_length a b) (fun x hx y _ e=>num_inj (by simp[hx]) e) (matchFrom_rises _ _ 0)
end PairMath_sec
section GapLaw_sec
theorem matchG_S (rs:List RowG) (list:List ByteArray):matchG rs list=matchS (rs.map (·.2)) list:=by
 unfold matchG idsOf2;rw[idsAll_map];(exact matchS_num fun x hx=>tabAll (ls:=[rs.map (·.2),list]) (by simp) hx)
theorem comeF_def (col:Nat) (list:List ByteArray) (rs:List RowG):comeF col list rs=comeGo col list (matchS (rs.map (·.2)) list) rs 0:=by rw[comeF,matchG_S]
def Cols (n:Nat) (rs:List RowG):Prop := ∀ x ∈ rs,x.1.length=16∧(∀ c,x.1.getD c 0=0∨x.1.getD c 0=1)∧(∀ c,n≤c→x.1.getD c 0=0)∧(∃ c,c < n∧x.1.getD c 0=1)
theorem getD_set (l:List Int) (i c:Nat) (v:Int) (h:i < l.length):(l.set i v).getD c 0=if c=i then v else l.getD c 0:=by
 simp only[List.getD_eq_getElem?_getD,List.getElem?_set]
 by_cases e:c=i
 (· (subst e;simp[h]));(· simp[e,Ne.symm e])
theorem noMarks_getD (c:Nat):noMarks.getD c 0=0:=by
 simp only[noMarks,List.getD_eq_getElem?_getD,List.getElem?_replicate];(split <;> rfl)
theorem oneRow_getD {col:Nat} (h:col < 16) (s:ByteArray) (c:Nat):(oneRow col s).1.getD c 0=if c=col then 1 else 0:=by
 rw[oneRow,getD_set _ _ _ _ (by simpa [noMarks] using h),noMarks_getD]
theorem oneRow_len (col:Nat) (s:ByteArray):(oneRow col s).1.length=16:=by simp[oneRow,noMarks]
theorem comeGo_forall (P:RowG→Prop) (col:Nat) (list:List ByteArray) (h1 : ∀ s ∈ list,P (oneRow col s)) : ∀ (ms:List Int) (rs:List RowG) (a:Nat),ms.length=rs.length→(∀ x ∈ rs,P x∧P (x.1.set col 1,x.2)) → ∀ x ∈ comeGo col list ms rs a,P x
 | [],rs,a,hl,h=>by
  rw[comeGo_nil];intro x hx;obtain⟨s,hs,rfl⟩:=List.mem_map.1 hx;exact h1 s (List.mem_of_mem_drop hs)
 | m :: ms,[],a,hl,h=>by simp at hl
 | m :: ms,y :: rs,a,hl,h=>by
  (have ih:=fun a=>comeGo_forall P col list h1 ms rs a (by simpa using hl) (fun x hx=>h x (List.mem_cons_of_mem _ hx)));have hy:=h y List.mem_cons_self;intro x hx;(rw[comeGo] at hx);(split at hx)
  ·
   rcases List.mem_append.1 hx with hx|hx
   (· obtain⟨s,hs,rfl⟩:=List.mem_map.1 hx;exact h1 s (List.mem_of_mem_take (List.mem_of_mem_drop hs)))
   ·
    rcases List.mem_cons.1 hx with rfl|hx
    (· exact hy.2);(· exact ih _ x hx)
  ·
   rcases List.mem_cons.1 hx with rfl|hx
   (· exact hy.1);(· exact ih _ x hx)
theorem comeF_len_m (rs:List RowG) (list:List ByteArray):(matchS (rs.map (·.2)) list).length=rs.length:=by rw[matchS_length,List.length_map]
theorem Cols.come {n:Nat} {rs:List RowG} (h:Cols n rs) (hn:n < 16) (list:List ByteArray):Cols (n+1) (comeF n list rs):=by
 rw[comeF_def];(refine comeGo_forall (fun x=>x.1.length=16∧(∀ c,x.1.getD c 0=0∨x.1.getD c 0=1)∧(∀ c,n+1≤c→x.1.getD c 0=0)∧(∃ c,c < n+1∧x.1.getD c 0=1)) n list (fun s hs=>⟨oneRow_len _ _,fun c=>?_,fun c hc=>?_,n,by omega,?_⟩) _ rs 0 (comeF_len_m rs list) fun x hx=>?_);(· (rw[oneRow_getD hn];split <;> simp));(· rw[oneRow_getD hn,if_neg (by omega)]);(· rw[oneRow_getD hn,if_pos rfl])
 ·
  obtain⟨h1,h2,h3,c0,h4,h5⟩:=h x hx;(have hnl:n < x.1.length:=by omega);refine⟨⟨h1,h2,fun c hc=>h3 c (by omega),c0,by omega,h5⟩,by simpa using h1,fun c=>?_,fun c hc=>?_,n,by omega,?_⟩
  ·
   show (x.1.set n 1).getD c 0=0∨(x.1.set n 1).getD c 0=1;(rw[getD_set _ _ _ _ hnl];split);(· simp);(· exact h2 c)
  (· show (x.1.set n 1).getD c 0=0;(rw[getD_set _ _ _ _ hnl,if_neg (by omega)];exact h3 c (by omega)));(· show (x.1.set n 1).getD n 0=1;rw[getD_set _ _ _ _ hnl,if_pos rfl])
def colT (c:Nat) (rs:List RowG):List ByteArray:=(rs.filter (fun x=>x.1.getD c 0 == 1)).map (·.2)
theorem colT_cons (c:Nat) (y:RowG) (l:List RowG):colT c (y :: l)=(if y.1.getD c 0=1 then [y.2] else []) ++ colT c l:=by
 (unfold colT;rw[List.filter_cons])
 by_cases e:y.1.getD c 0=1
 (· (rw[if_pos (by rw[e];rfl),if_pos e];rfl));(· (rw[if_neg (by simpa using e),if_neg e];rfl))
theorem colT_append (c:Nat) (a b:List RowG):colT c (a ++ b)=colT c a ++ colT c b:=by simp[colT]
theorem colT_new {col:Nat} (h:col < 16) (l:List ByteArray):colT col (l.map (oneRow col))=l:=by
 induction l with
 | nil=>rfl
 | cons s l ih =>
  (rw[List.map_cons,colT_cons,oneRow_getD h,if_pos rfl,if_pos rfl,ih];rfl)
theorem colT_new_ne {col c:Nat} (h:col < 16) (hc:c≠col) (l:List ByteArray):colT c (l.map (oneRow col))=[]:=by
 induction l with
 | nil=>rfl
 | cons s l ih =>
  (rw[List.map_cons,colT_cons,oneRow_getD h,if_neg hc,if_neg (by decide),ih];rfl)
theorem drop_take_at {list:List ByteArray} {a k:Nat} {s:ByteArray} (h1:a≤k) (h:list[k]? = some s):(list.take k).drop a ++ s :: list.drop (k+1)=list.drop a:=by
 obtain⟨hk,rfl⟩:=List.getElem?_eq_some_iff.1 h;rw[← List.drop_eq_getElem_cons hk];(have:list.drop a=(list.take k ++ list.drop k).drop a:=by rw[List.take_append_drop]);rw[this,List.drop_append_of_le_length (by rw[List.length_take];omega)]
theorem colT_come {col:Nat} (h:col < 16) (list:List ByteArray) : ∀ (ms:List Int) (rs:List RowG) (a:Nat),Fits list ms (rs.map (·.2)) a→(∀ x ∈ rs,x.1.length=16∧x.1.getD col 0=0)→colT col (comeGo col list ms rs a)=list.drop a
 | [],[],a,hf,hr=>by rw[comeGo_nil,colT_new h]
 | [],_ :: _,a,hf,hr=>hf.elim
 | m :: ms,[],a,hf,hr=>hf.elim
 | m :: ms,y :: rs,a,hf,hr=>by
  (have hr' : ∀ x ∈ rs,x.1.length=16∧x.1.getD col 0=0:=fun x hx=>hr x (List.mem_cons_of_mem _ hx));have hy:=hr y List.mem_cons_self
  rcases hf with ⟨rfl,hf⟩|⟨k,rfl,h1,h2,hf⟩
  (· have ih:=colT_come h list ms rs a hf hr';rw[comeGo_no,colT_cons,if_neg (by rw[hy.2];decide)];exact ih);(· have ih:=colT_come h list ms rs (k+1) hf hr';rw[comeGo_yes,colT_append,colT_new h,colT_cons,if_pos (by rw[getD_set _ _ _ _ (by omega),if_pos rfl]),ih];exact drop_take_at h1 h2)
theorem colT_old {col c:Nat} (h:col < 16) (hc:c≠col) (list:List ByteArray) : ∀ (ms:List Int) (rs:List RowG) (a:Nat),ms.length=rs.length→(∀ x ∈ rs,x.1.length=16)→colT c (comeGo col list ms rs a)=colT c rs
 | [],[],a,hf,hr=>by rw[comeGo_nil,colT_new_ne h hc];rfl
 | [],_ :: _,a,hf,hr=>by simp at hf
 | m :: ms,[],a,hf,hr=>by simp at hf
 | m :: ms,y :: rs,a,hf,hr=>by
  (have hr' : ∀ x ∈ rs,x.1.length=16:=fun x hx=>hr x (List.mem_cons_of_mem _ hx));have hy:=hr y List.mem_cons_self;(have ih:=fun a=>colT_old h hc list ms rs a (by simpa using hf) hr');rw[comeGo];split;(· (have e:(y.1.set col 1).getD c 0=y.1.getD c 0:=by rw[getD_set _ _ _ _ (by omega),if_neg hc]);rw[colT_append,colT_new_ne h hc,List.nil_append];rw[colT_cons,colT_cons,ih];simp only[e]);(· rw[colT_cons,colT_cons,ih])
def rowsFrom:Nat→List (List ByteArray)→List RowG→List RowG
  | _,[],rs=>rs
  | i,l :: ls,rs=>rowsFrom (i+1) ls (comeF i l rs)
theorem rowsFrom_snoc : ∀ (ls:List (List ByteArray)) (i:Nat) (l:List ByteArray) (rs:List RowG),rowsFrom i (ls ++ [l]) rs=comeF (i+ls.length) l (rowsFrom i ls rs)
 | [],i,l,rs=>rfl
 | x :: ls,i,l,rs=>by
  simp only[List.cons_append,rowsFrom,List.length_cons];rw[rowsFrom_snoc ls (i+1) l _,show i+1+ls.length=i+(ls.length+1) by omega]
def rowsOf (ls:List (List ByteArray)):List RowG:=rowsFrom 0 ls []
theorem rowsOf_snoc (ls:List (List ByteArray)) (l:List ByteArray):rowsOf (ls ++ [l])=comeF ls.length l (rowsOf ls):=by
 (rw[rowsOf,rowsFrom_snoc,Nat.zero_add];rfl)
theorem snoc_induct {α:Type} {P:List α→Prop} (h0:P []) (h1 : ∀ l x,P l→P (l ++ [x])) : ∀ l,P l:=by
 intro l;rw[← l.reverse_reverse]
 induction l.reverse with
 | nil=>exact h0
 | cons x l ih=>rw[List.reverse_cons];exact h1 _ _ ih
theorem rowsOf_cols : ∀ ls:List (List ByteArray),ls.length≤16→Cols ls.length (rowsOf ls):=by
 (refine snoc_induct (fun _ x hx=>by simp[rowsOf,rowsFrom] at hx) fun ls l ih h=>?_);rw[rowsOf_snoc];(simp only[List.length_append,List.length_cons,List.length_nil] at h ⊢);exact(ih (by omega)).come (by omega) l
theorem rowsOf_colT : ∀ ls:List (List ByteArray),ls.length≤16 → ∀ c,c < ls.length→colT c (rowsOf ls)=ls.getD c []:=by
 (refine snoc_induct (fun _ c hc=>by simp at hc) fun ls l ih h c hc=>?_);rw[rowsOf_snoc];(simp only[List.length_append,List.length_cons,List.length_nil] at h hc);have hC:=rowsOf_cols ls (by omega)
 by_cases e:c=ls.length
 (· subst e;rw[comeF_def,colT_come (by omega) l _ _ 0 (matchS_fits _ _) (fun x hx=>⟨(hC x hx).1,(hC x hx).2.2.1 _ (Nat.le_refl _)⟩)];simp);(· rw[comeF_def,colT_old (by omega) e l _ _ 0 (comeF_len_m _ _) (fun x hx=>(hC x hx).1),ih (by omega) c (by omega)];simp only[List.getD_eq_getElem?_getD];rw[List.getElem?_append_left (by omega)])
def sumLen (ls:List (List ByteArray)):Nat:=(ls.map List.length).sum
theorem rowsOf_le : ∀ ls:List (List ByteArray),(rowsOf ls).length≤sumLen ls:=by
 (refine snoc_induct (Nat.zero_le _) fun ls l ih=>?_);rw[rowsOf_snoc];have:=comeF_len ls.length l (rowsOf ls);(simp only[sumLen,List.map_append,List.sum_append,List.map_cons,List.map_nil,List.sum_cons,List.sum_nil] at ih ⊢);omega
end GapLaw_sec
section Ref02_sec
open Go.RowKit Go.Proofs.YthcnfflhejogfaaDoorW.PrintWords Go.Proofs.YthcnfflhejogfaaDoorW.PrintLast Go.Proofs.YthcnfflhejogfaaDoorW.PrintMore
def fewB (l:List ByteArray) (n:Nat):Bool:=decide (l.length≤n ∧ ∀ s ∈ l,s.size≤100)
theorem ref_few01_l0 (l:List ByteArray) (n:Nat) (hn:n≤1000000) : ∀ (r i k:Nat),i+r=n+1→2 * r+2≤k→sennitref01_Few.l0 k l (n:Int) (i:Int)=some (decide (l.length≤n ∧ ∀ s ∈ l.drop i,s.size≤100))
 | 0,i,k+2,hi,hk=>by
  (have e:((l.length:Int)≤(n:Int))=(l.length≤n):=by simp);rw[sennitref01_Few.l0]
  by_cases h:(i:Int) < l.length
  (· rw[if_pos h,decide_eq_false (show ¬ ((i:Int)≤(n:Int)) by omega),sennitref01_Few.j1,if_neg (by decide),decide_eq_false (by omega),decide_eq_false (by omega)]);(· rw[if_neg h,sennitref01_Few.j1,if_neg (by decide),List.drop_of_length_le (by omega)];simp)
 | r+1,i,k+2,hi,hk=>by
  rw[sennitref01_Few.l0]
  by_cases h:(i:Int) < l.length
  ·
   have hd:l.drop i=l[i] :: l.drop (i+1):=List.drop_eq_getElem_cons (by omega);rw[if_pos h,decide_eq_true (show ((i:Int)≤(n:Int)) by omega),sennitref01_Few.j1,if_pos rfl,if_pos (by omega),if_pos h,rdOfN (by omega),hd]
   by_cases h2:100 < l[i].size
   (· rw[if_pos (by omega),decide_eq_false];rintro⟨_,h3⟩;have:=h3 l[i] List.mem_cons_self;omega);(· rw[if_neg (by omega),gw1 (by omega)];have:=ref_few01_l0 l n hn r (i+1) k (by omega) (by omega);rw[this];simp only[List.forall_mem_cons,show l[i].size≤100 from by omega,true_and])
  (· rw[if_neg h,sennitref01_Few.j1,if_neg (by decide),List.drop_of_length_le (by omega)];simp)
theorem ref_few01 (l:List ByteArray) (n:Nat) (hn:n≤1000000):Gives (fun k=>sennitref01_Few.f k l (n:Int)) (fewB l n) :=
  ⟨2 * (n+1)+2,fun k hk=>by
    have:=ref_few01_l0 l n hn (n+1) 0 k (by omega) hk
    simpa [sennitref01_Few.f,fewB] using this⟩
theorem ref_id_l0 (t:List ByteArray) (s:ByteArray) (ht:t.length≤1000000) : ∀ (r i:Nat),i+r=t.length→Gives (fun k=>sennitref02_Id.l0 k t s (i:Int)) (if place s (t.drop i) < (t.drop i).length then t else t ++ [s],((i+place s (t.drop i):Nat):Int))
 | 0,i,hi=>Gives.of fun k=>by
  show sennitref02_Id.l0 (k+1) t s (i:Int)=_;rw[sennitref02_Id.l0,if_neg (by omega),List.drop_of_length_le (by omega)];simp only[Option.bind_some,List.nil_append,List.length_nil,Nat.zero_add];rw[if_pos (by omega),if_pos (by omega),if_neg (by simp[place])];(simp[place];omega)
 | r+1,i,hi=>by
  have ha:=dropCons (l:=t) (i:=i) (by omega)
  by_cases e:t[i]=s
  (· (refine Gives.of fun k=>?_);show sennitref02_Id.l0 (k+1) t s (i:Int)=_;rw[sennitref02_Id.l0,if_pos (by omega),if_pos (by omega),rdOfN (by omega),if_pos (strEq.2 e),ha];simp[place,e])
  ·
   (refine((ref_id_l0 t s ht r (i+1) (by omega)).eq ?_).step fun k=>?_)
   ·
    (rw[ha];simp only[place,if_neg e,List.length_cons])
    congr 1
    ·
     by_cases h:place s (t.drop (i+1)) < (t.drop (i+1)).length
     (· rw[if_pos h,if_pos (by omega)]);(· rw[if_neg h,if_neg (by omega)])
    (· omega)
   (· show sennitref02_Id.l0 (k+1) t s (i:Int)=_;rw[sennitref02_Id.l0,if_pos (by omega),if_pos (by omega),rdOfN (by omega),if_neg (fun h=>e (strEq.1 h)),gw1 (by omega)])
theorem ref_id (t:List ByteArray) (s:ByteArray) (ht:t.length≤1000000):Gives (fun k=>sennitref02_Id.f k t s) (addT t s,((place s t:Nat):Int)):=by
 (refine((ref_id_l0 t s ht t.length 0 (by omega)).eq ?_).same fun k=>rfl);simp[addT]
theorem ref_all_l1 (files:List (List ByteArray)) (i:Nat) (hi:i < files.length) (hf:files.length≤1000) (hl:files[i].length≤100000) (out:List (List Int)) (ho:out.length≤1000) (R:List (List Int)) (T:List ByteArray) (ht:(idsOne T files[i]).1.length≤1000000)
    (hR:Gives (fun k=>sennitref02_All.l0 k files (out ++ [(idsOne T files[i]).2]) (idsOne T files[i]).1 ((i+1:Nat):Int)) R) :
    ∀ (r j:Nat),j+r=files[i].length→Gives (fun k=>sennitref02_All.l1 k files out (idsOne T (files[i].take j)).1 (i:Int) (idsOne T (files[i].take j)).2 (j:Int)) R
  | 0,j,hj=>hR.step fun k=>by
    show sennitref02_All.l1 (k+1) files out _ (i:Int) _ (j:Int)=_
    have e:rd_L8 files (i:Int)=files[i]:=getN hi
    rw[sennitref02_All.l1,if_pos (by omega),if_pos (by omega),e,if_neg (by omega),if_pos (by omega),gw1 (by omega),List.take_of_length_le (by omega)]
  | r+1,j,hj=>by
    have e:rd_L8 files (i:Int)=files[i]:=getN hi
    have hjl:j < files[i].length:=by omega
    have tk:files[i].take (j+1)=files[i].take j ++ [files[i][j]]:=(List.take_append_getElem hjl).symm
    have ih:=ref_all_l1 files i hi hf hl out ho R T ht hR r (j+1) (by omega)
    rw[tk,idsOne_snoc] at ih
    have hle:(idsOne T (files[i].take j)).1.length≤1000000:=by
      have : ∀ (t l k:List ByteArray),(idsOne t l).1.length≤(idsOne t (l ++ k)).1.length:=by
        intro t l
        induction l generalizing t with
        | nil =>
          intro k
          induction k generalizing t with
          | nil=>exact Nat.le_refl _
          | cons s k ih=>exact Nat.le_trans (addT_length t s).1 (ih (addT t s))
        | cons s l ih=>intro k;exact ih (addT t s) k
      have h2:=this T (files[i].take j) (files[i].drop j)
      rw[List.take_append_drop] at h2
      omega
    refine Gives.call (ref_id _ files[i][j] hle) ih fun k hk=>?_
    show sennitref02_All.l1 (k+1) files out _ (i:Int) _ (j:Int)=_
    have hs:(idsOne T (files[i].take j)).2.length=j:=by rw[idsOne_length,List.length_take];omega
    rw[sennitref02_All.l1,if_pos (by omega),if_pos (by omega),e,if_pos (by omega),if_pos (by omega),rdOfN hjl,hk,Option.bind_some,if_pos (by omega),gw1 (by omega)]
theorem ref_all_l0 (files:List (List ByteArray)) (hf:files.length≤1000) (hl : ∀ l ∈ files,l.length≤100000) (ht:(files.map List.length).sum≤1000000) :
    ∀ (r i:Nat),i+r=files.length→Gives (fun k=>sennitref02_All.l0 k files (idsMany [] (files.take i)) (tabOf [] (files.take i)) (i:Int)) (idsMany [] files)
  | 0,i,hi=>Gives.of fun k=>by
    show sennitref02_All.l0 (k+1) files _ _ (i:Int)=_
    rw[sennitref02_All.l0,if_neg (by omega),List.take_of_length_le (by omega)]
  | r+1,i,hi=>by
    have hil:i < files.length:=by omega
    have tk:files.take (i+1)=files.take i ++ [files[i]]:=(List.take_append_getElem hil).symm
    have ih:=ref_all_l0 files hf hl ht r (i+1) (by omega)
    rw[tk,idsMany_snoc,tabOf_snoc] at ih
    have hsum:(idsOne (tabOf [] (files.take i)) files[i]).1.length≤1000000:=by
      have h1:=idsOne_table_le (tabOf [] (files.take i)) files[i]
      have h2 : ∀ (t:List ByteArray) (ls:List (List ByteArray)),(tabOf t ls).length≤t.length+(ls.map List.length).sum:=by
        intro t ls
        induction ls generalizing t with
        | nil=>simp[tabOf]
        | cons l ls ih=>have a:=ih (idsOne t l).1;have b:=idsOne_table_le t l;simp only[tabOf,List.map_cons,List.sum_cons];omega
      have h3:=h2 [] (files.take i)
      have h4:((files.take i).map List.length).sum+files[i].length≤(files.map List.length).sum:=by
        have e:files=files.take i ++ files[i] :: files.drop (i+1):=by rw[← dropCons hil,List.take_append_drop]
        have:=congrArg (fun l=>(l.map List.length).sum) e
        simp only[List.map_append,List.sum_append,List.map_cons,List.sum_cons] at this
        omega
      simp only[List.length_nil] at h3
      omega
    have:=ref_all_l1 files i hil hf (hl _ (List.getElem_mem _)) (idsMany [] (files.take i)) (by rw[idsMany_length,List.length_take];omega) _ _ hsum ih files[i].length 0 (by omega)
    refine this.step fun k=>?_
    show sennitref02_All.l0 (k+1) files _ _ (i:Int)=_
    rw[sennitref02_All.l0,if_pos (by omega)]
    rfl
theorem ref_all (files:List (List ByteArray)) (hf:files.length≤1000) (hl : ∀ l ∈ files,l.length≤100000) (ht:(files.map List.length).sum≤1000000):Gives (fun k=>sennitref02_All.f k files) (idsAll files) :=
  (ref_all_l0 files hf hl ht files.length 0 (by omega)).same fun k=>rfl
end Ref02_sec
section Ref03_sec
open Go.RowKit Go.Proofs.YthcnfflhejogfaaDoorW.PrintWords Go.Proofs.YthcnfflhejogfaaDoorW.PrintLast Go.Proofs.YthcnfflhejogfaaDoorW.PrintMore
theorem rd_of {L:List Int} {i:Nat} {x:Int} (h:L[i]? = some x):rd L (i:Int)=x:=by
 simp[rd,h]
def Tab (a b:List Int) (i c:Nat) (T:List Int):Prop :=
  T.length=(a.length+1) * (b.length+1) ∧ ∀ i' j',i'≤a.length→j'≤b.length→T[i' * (b.length+1)+j']? = some (if i < i'∨i=i'∧c≤j' then ((lcsL (a.drop i') (b.drop j'):Nat):Int) else 0)
section
variable {a b T:List Int}
theorem tab_place {n m i j:Nat} (hi:i≤n) (hj:j≤m):i * (m+1)+j < (n+1) * (m+1):=place_lt (by omega) (by omega)
theorem tab_ne {m i j i' j':Nat} (hj:j≤m) (hj':j'≤m) (h:i * (m+1)+j=i' * (m+1)+j'):i=i'∧j=j':=by
 have h1:=place_div (m:=m+1) (i:=i) (j:=j) (by omega);have h2:=place_div (m:=m+1) (i:=i') (j:=j') (by omega);(rw[h] at h1);exact⟨h1.1.symm.trans h2.1,h1.2.symm.trans h2.2⟩
theorem Tab.start:Tab a b a.length (b.length) (List.replicate ((a.length+1) * (b.length+1)) 0):=by
 refine⟨by simp,fun i' j' hi hj=>?_⟩;rw[List.getElem?_replicate,if_pos (tab_place hi hj)];split
 ·
  rename_i h
  have:a.drop i'=[]∨b.drop j'=[]:=by
   rcases h with h|⟨h,h2⟩
   (· omega);(· exact .inl (List.drop_eq_nil_of_le (by omega)))
  rcases this with h|h
  (· (rw[h];simp[lcsL]));(· rw[h];(cases a.drop i' <;> simp[lcsL]))
 (· rfl)
theorem Tab.up {i:Nat} (h:Tab a b (i+1) 0 T):Tab a b i b.length T:=by
 refine⟨h.1,fun i' j' hi hj=>?_⟩;rw[h.2 i' j' hi hj]
 congr 1
 by_cases e:i'=i
 ·
  subst e;rw[if_neg (by omega)];split;(· rename_i h2;rw[show b.drop j'=[] from List.drop_of_length_le (by omega),lcsL_nil_right];rfl);(· rfl)
 ·
  by_cases e2:i < i'
  (· rw[if_pos (show i+1 < i'∨i+1=i'∧0≤j' by omega),if_pos (show i < i'∨i=i'∧b.length≤j' by omega)]);(· rw[if_neg (show ¬ (i+1 < i'∨i+1=i'∧0≤j') by omega),if_neg (show ¬ (i < i'∨i=i'∧b.length≤j') by omega)])
theorem Tab.first(h:Tab a b a.length b.length T):Tab a b a.length 0 T:=by
 refine⟨h.1,fun i' j' hi hj=>?_⟩;rw[h.2 i' j' hi hj]
 congr 1
 by_cases e:i'=a.length
 (· subst e;rw[if_pos (show a.length < a.length∨a.length=a.length∧0≤j' by omega),show a.drop a.length=[] from List.drop_of_length_le (by omega),lcsL_nil_left];(split <;> rfl));(· rw[if_neg (show ¬ (a.length < i'∨a.length=i'∧b.length≤j') by omega),if_neg (show ¬ (a.length < i'∨a.length=i'∧0≤j') by omega)])
theorem Tab.put {i c:Nat} (h:Tab a b i (c+1) T) (hi:i≤a.length) (hc:c≤b.length):Tab a b i c (T.set (i * (b.length+1)+c) ((lcsL (a.drop i) (b.drop c):Nat):Int)):=by
 refine⟨by simpa using h.1,fun i' j' hi' hj'=>?_⟩
 by_cases e:i'=i∧j'=c
 (· obtain⟨rfl,rfl⟩:=e;rw[List.getElem?_set_self (by rw[h.1];exact tab_place hi hc),if_pos (by omega)])
 ·
  rw[List.getElem?_set_ne (fun h2=>e (by have:=tab_ne hc hj' h2;omega)),h.2 i' j' hi' hj']
  congr 1
  by_cases e2:i < i'∨i=i'∧c+1≤j'
  (· rw[if_pos e2,if_pos (by omega)]);(· rw[if_neg e2,if_neg (by omega)])
theorem Tab.at_ {i c i' j':Nat} (h:Tab a b i c T) (hi:i'≤a.length) (hj:j'≤b.length) (hd:i < i'∨i=i'∧c≤j'):rd T ((i':Int) * ((b.length:Int)+1)+(j':Int))=((lcsL (a.drop i') (b.drop j'):Nat):Int):=by
 have:=h.2 i' j' hi hj;(rw[if_pos hd] at this);have e:=rd_of this;rw[← e]
 congr 1
end
theorem place64 {n m i j:Nat} (hn:n≤100) (hm:m≤100) (hi:i≤n) (hj:j≤m):0≤(i:Int) * ((m:Int)+1)∧(i:Int) * ((m:Int)+1)+(j:Int) < ((n:Int)+1) * ((m:Int)+1)∧((n:Int)+1) * ((m:Int)+1)≤10201:=by
 have h1:=tab_place hi hj;have h2:(n+1) * (m+1)≤101 * 101:=Nat.mul_le_mul (by omega) (by omega);(have e1:(i:Int) * ((m:Int)+1)=((i * (m+1):Nat):Int):=by simp);(have e2:((n:Int)+1) * ((m:Int)+1)=(((n+1) * (m+1):Nat):Int):=by simp);rw[e1,e2];omega
set_option maxHeartbeats 1000000 in
theorem rest_step (a b T:List Int) (w i c X0 X1:Int) (k:Nat) (hX0:i * w=X0) (hX1:(i+1) * w=X1) (h0:0≤X0) (hw:X1=X0+w) (hw0:0≤w) (hi:0≤i) (hia:i < a.length) (hc:0≤c) (hcb:c < b.length) (hcw:c+1 < w) (hT:X1+w≤T.length) (hT2:(T.length:Int)≤100000) (hs:(a.length:Int)≤1000)
    (r1 r2 r3:Int) (e1:rd T (X1+c)=r1) (e2:rd T (X0+c+1)=r2) (e3:rd T (X1+c+1)=r3) (h3:0≤r3) (h3':r3≤1000) :
    sennitref03_rest.l1 (k+1) a b w T i c=sennitref03_rest.l1 k a b w (T.set (X0+c).toNat (if rd a i=rd b c then mx (mx r1 r2) (r3+1) else mx r1 r2)) i (c - 1):=by
 have a1:wrap64 (i+1)=i+1:=gw (by omega) (by omega);have a2:wrap64 X1=X1:=gw (by omega) (by omega);have a3:wrap64 (X1+c)=X1+c:=gw (by omega) (by omega);have a4:wrap64 X0=X0:=gw (by omega) (by omega);have a5:wrap64 (X0+c)=X0+c:=gw (by omega) (by omega);have a6:wrap64 (X0+c+1)=X0+c+1:=gw (by omega) (by omega);have a7:wrap64 (X1+c+1)=X1+c+1:=gw (by omega) (by omega);have a8:wrap64 (c - 1)=c - 1:=gw (by omega) (by omega);have a9:wrap64 (r3+1)=r3+1:=gw (by omega) (by omega);have b0:c ≥ 0:=hc;(have b1:0≤X1+c:=by omega);(have b2:X1+c < T.length:=by omega);(have b3:0≤X0+c+1:=by omega);(have b4:X0+c+1 < T.length:=by omega);(have b5:0≤X1+c+1:=by omega);(have b6:X1+c+1 < T.length:=by omega);(have b7:0≤X0+c:=by omega);(have b8:X0+c < T.length:=by omega);rw[sennitref03_rest.l1,a1,hX1,hX0,a2,a3,a4,a5,a6,a7,a8,e1,e2,e3,a9];rw[if_pos b0,if_pos b1,if_pos b2,if_pos b3,if_pos b4,if_pos hi,if_pos hia,if_pos hc,if_pos hcb]
 by_cases eq:rd a i=rd b c
 (· rw[if_pos eq,if_pos b5,if_pos b6,if_pos b7,if_pos b8,if_pos eq]);(· rw[if_neg eq,if_neg eq];rw[if_pos b7,if_pos b8])
theorem place_cast (i m j:Nat):((i:Int) * ((m:Int)+1)+(j:Int)).toNat=i * (m+1)+j:=by
 (have:(i:Int) * ((m:Int)+1)=((i * (m+1):Nat):Int):=by simp);(rw[this];omega)
section
variable {a b:List Int}
theorem rest_l1 (ha:a.length≤100) (hb:b.length≤100) {i:Nat} (hi:i < a.length) : ∀ (c:Nat) (T:List Int),c≤b.length→Tab a b i c T →
    ∃ T',Tab a b i 0 T' ∧ ∀ k,sennitref03_rest.l1 (k+c+1) a b ((b.length:Int)+1) T (i:Int) ((c:Int) - 1)=sennitref03_rest.l0 k a b ((b.length:Int)+1) T' ((i:Int) - 1)
  | 0,T,_,hT=>⟨T,hT,fun k=>by
      rw[sennitref03_rest.l1,if_neg (by omega),gw (by omega) (by omega)]⟩
  | c+1,T,hc,hT=>by
    obtain⟨T',h1,h2⟩:=rest_l1 ha hb hi c _ (by omega) (hT.put (by omega) (by omega))
    refine⟨T',h1,fun k=>?_⟩
    have L:(T.length:Int)=((a.length:Int)+1) * ((b.length:Int)+1):=by rw[hT.1];simp
    have p1:=place64 ha hb (i:=i+1) (j:=b.length) (by omega) (by omega)
    have p4:=place64 ha hb (i:=i) (j:=c) (by omega) (by omega)
    have r1:=hT.at_ (i':=i+1) (j':=c) (by omega) (by omega) (by omega)
    have r2:=hT.at_ (i':=i) (j':=c+1) (by omega) (by omega) (by omega)
    have r3:=hT.at_ (i':=i+1) (j':=c+1) (by omega) (by omega) (by omega)
    have x1:((i+1:Nat):Int)=(i:Int)+1:=by omega
    have x2:((c+1:Nat):Int)=(c:Int)+1:=by omega
    have en:=place_cast i b.length c
    rw[x1] at p1 r1 r3
    rw[x2,← Int.add_assoc] at r2 r3
    have hX:((i:Int)+1) * ((b.length:Int)+1)=(i:Int) * ((b.length:Int)+1)+((b.length:Int)+1):=by rw[Int.add_mul,Int.one_mul]
    have xa:a[i]? = some a[i]:=List.getElem?_eq_getElem hi
    have xb:b[c]? = some b[c]:=List.getElem?_eq_getElem (by omega)
    have q1:=lcsL_le_left (a.drop (i+1)) (b.drop (c+1))
    rw[List.length_drop] at q1
    obtain⟨X0,hX0⟩ : ∃ X0,(i:Int) * ((b.length:Int)+1)=X0:=⟨_,rfl⟩
    obtain⟨X1,hX1⟩ : ∃ X1,((i:Int)+1) * ((b.length:Int)+1)=X1:=⟨_,rfl⟩
    obtain⟨LL,hLL⟩ : ∃ LL,((a.length:Int)+1) * ((b.length:Int)+1)=LL:=⟨_,rfl⟩
    rw[hX0] at p4 r2 hX en
    rw[hX1] at p1 r1 r3 hX
    rw[hLL] at p1 p4 L
    have st:=rest_step a b T ((b.length:Int)+1) i c X0 X1 (k+c+1) hX0 hX1 (by omega) hX (by omega) (by omega) (by omega) (by omega) (by omega) (by omega) (by omega) (by omega) (by omega) _ _ _ r1 r2 r3 (by omega) (by omega)
    rw[show k+(c+1)+1=k+c+1+1 from by omega,show ((c+1:Nat):Int) - 1=(c:Int) from by omega,st,← h2 k,en,rd_of xa,rd_of xb]
    congr 2
    have s1:=lcsL_step_left a[i] (a.drop (i+1)) (b.drop (c+1))
    have s2:=lcsL_step_right b[c] (a.drop (i+1)) (b.drop (c+1))
    rw[← drop_cons' xa] at s1
    rw[← drop_cons' xb] at s2
    by_cases eq:a[i]=b[c]
    · rw[if_pos eq,lcs_eq xa xb eq]
      simp only[mx]
      split <;> split <;> omega
    · rw[if_neg eq,lcs_ne xa xb eq]
      simp only[mx]
      split <;> omega
theorem rest_l0 (ha:a.length≤100) (hb:b.length≤100) : ∀ (r:Nat) (T:List Int),r≤a.length→Tab a b r 0 T →
    ∃ T',Tab a b 0 0 T' ∧ ∀ k,r * (b.length+2)+1≤k→sennitref03_rest.l0 k a b ((b.length:Int)+1) T ((r:Int) - 1)=some T'
  | 0,T,_,hT=>⟨T,hT,fun k hk=>by
      obtain⟨k,rfl⟩ : ∃ k',k=k'+1:=⟨k - 1,by omega⟩
      rw[sennitref03_rest.l0,if_neg (by omega)]⟩
  | r+1,T,hr,hT=>by
    obtain⟨T1,h1,h2⟩:=rest_l1 ha hb (i:=r) (by omega) b.length T (Nat.le_refl _) hT.up
    obtain⟨T',h3,h4⟩:=rest_l0 ha hb r T1 (by omega) h1
    refine⟨T',h3,fun k hk=>?_⟩
    rw[Nat.succ_mul] at hk
    obtain⟨k,rfl⟩ : ∃ k',k=k'+b.length+1+1:=⟨k - b.length - 2,by omega⟩
    rw[sennitref03_rest.l0,if_pos (by omega),gw (by omega) (by omega),show ((r+1:Nat):Int) - 1=(r:Int) from by omega,h2 k]
    exact h4 k (by omega)
theorem rest_gives (ha:a.length≤100) (hb:b.length≤100) : ∃ T,Tab a b 0 0 T∧Gives (fun k=>sennitref03_rest.f k a b) T:=by
 obtain⟨T,h1,h2⟩:=rest_l0 ha hb a.length _ (Nat.le_refl _) (Tab.start (a:=a) (b:=b)).first;refine⟨T,h1,a.length * (b.length+2)+1,fun k hk=>?_⟩;have p:=place64 ha hb (i:=0) (j:=0) (by omega) (by omega)
 have e:(((a.length:Int)+1) * ((b.length:Int)+1)).toNat=(a.length+1) * (b.length+1):=by
  rw[← Int.natCast_one,← Int.natCast_add,← Int.natCast_add,← Int.natCast_mul,Int.toNat_natCast]
 show sennitref03_rest.f k a b=_;have w1:wrap64 ((a.length:Int)+1)=(a.length:Int)+1:=gw (by omega) (by omega);have w2:wrap64 ((b.length:Int)+1)=(b.length:Int)+1:=gw (by omega) (by omega);have w3:wrap64 ((a.length:Int) - 1)=(a.length:Int) - 1:=gw (by omega) (by omega);have hm:(a.length+1) * (b.length+1)≤101 * 101:=Nat.mul_le_mul (by omega) (by omega)
 have w4:wrap64 (((a.length:Int)+1) * ((b.length:Int)+1))=((a.length:Int)+1) * ((b.length:Int)+1):=by
  obtain⟨LL,hLL⟩ : ∃ LL,((a.length:Int)+1) * ((b.length:Int)+1)=LL:=⟨_,rfl⟩;(rw[hLL] at p ⊢);exact gw (by omega) (by omega)
 rw[sennitref03_rest.f,w1,w2,w3,w4,e]
 have h0:0≤((a.length:Int)+1) * ((b.length:Int)+1):=by
  obtain⟨LL,hLL⟩ : ∃ LL,((a.length:Int)+1) * ((b.length:Int)+1)=LL:=⟨_,rfl⟩;(rw[hLL] at p ⊢);omega
 rw[if_pos h0,if_pos (by omega)];exact h2 k hk
set_option maxHeartbeats 1000000 in
theorem match_step (a b T:List Int) (w i j X0 X1:Int) (out:List Int) (k:Nat) (hX0:i * w=X0) (hX1:(i+1) * w=X1) (h0:0≤X0) (hw:X1=X0+w) (hw0:0≤w) (hi:0≤i) (hia:i < a.length) (hc:0≤j) (hcb:j < b.length) (hcw:j+1 < w) (hT:X1+w≤T.length) (hT2:(T.length:Int)≤100000) (hs:(a.length:Int)≤1000) (ho:out.length < 17592186044416)
    (r1 r2:Int) (e1:rd T (X1+j)=r1) (e2:rd T (X0+j+1)=r2) :
    sennitref03_Match.l1 (k+1) a b T w out j i (-1)=if rd a i=rd b j then sennitref03_Match.l0 k a b T w (out ++ [j]) (j+1) (i+1) else if r1 < r2 then sennitref03_Match.l1 k a b T w out (j+1) i (-1) else sennitref03_Match.l0 k a b T w (out ++ [-1]) j (i+1):=by
 have a1:wrap64 (i+1)=i+1:=gw (by omega) (by omega);have a2:wrap64 X1=X1:=gw (by omega) (by omega);have a3:wrap64 (X1+j)=X1+j:=gw (by omega) (by omega);have a4:wrap64 X0=X0:=gw (by omega) (by omega);have a5:wrap64 (X0+j)=X0+j:=gw (by omega) (by omega);have a6:wrap64 (X0+j+1)=X0+j+1:=gw (by omega) (by omega);have a7:wrap64 (j+1)=j+1:=gw (by omega) (by omega);(have b1:0≤X1+j:=by omega);(have b2:X1+j < T.length:=by omega);(have b3:0≤X0+j+1:=by omega);(have b4:X0+j+1 < T.length:=by omega);rw[sennitref03_Match.l1,a1,hX1,hX0,a2,a3,a4,a5,a6,a7,e1,e2];rw[if_pos hcb,if_pos hi,if_pos hia,if_pos hc,if_pos b1,if_pos b2,if_pos b3,if_pos b4,if_pos ho];simp only[if_pos ho]
theorem match_l (ha:a.length≤100) (hb:b.length≤100) {T:List Int} (hT:Tab a b 0 0 T) : ∀ (m:Nat),
    (∀ (i j:Nat) (out:List Int) (k:Nat),i≤a.length→j≤b.length→out.length=i→2 * (a.length - i)+(b.length - j)+1≤m→m≤k→sennitref03_Match.l0 k a b T ((b.length:Int)+1) out (j:Int) (i:Int)=some (out ++ matchFrom (a.drop i) (b.drop j) j)) ∧
    (∀ (i j:Nat) (out:List Int) (k:Nat),i < a.length→j≤b.length→out.length=i→2 * (a.length - i)+(b.length - j)≤m→m≤k→sennitref03_Match.l1 k a b T ((b.length:Int)+1) out (j:Int) (i:Int) (-1)=some (out ++ matchFrom (a.drop i) (b.drop j) j))
  | 0=>⟨fun i j out k _ _ _ h _=>by omega,fun i j out k _ _ _ h _=>by omega⟩
  | m+1=>by
    obtain⟨ih0,ih1⟩:=match_l ha hb hT m
    refine⟨fun i j out k hi hj ho hm hk=>?_,fun i j out k hi hj ho hm hk=>?_⟩
    · obtain⟨k,rfl⟩ : ∃ k',k=k'+1:=⟨k - 1,by omega⟩
      rw[sennitref03_Match.l0]
      by_cases h:i < a.length
      · rw[if_pos (by omega)]
        exact ih1 i j out k h hj ho (by omega) (by omega)
      · rw[if_neg (by omega),List.drop_of_length_le (by omega),matchFrom_nil,List.append_nil]
    · obtain⟨k,rfl⟩ : ∃ k',k=k'+1:=⟨k - 1,by omega⟩
      have xa:a[i]? = some a[i]:=List.getElem?_eq_getElem hi
      have z0:((out ++ [(-1:Int)]) ++ matchFrom (a.drop (i+1)) (b.drop j) j)=out ++ (-1 :: matchFrom (a.drop (i+1)) (b.drop j) j):=by simp
      have w1:wrap64 ((i:Int)+1)=(i:Int)+1:=gw (by omega) (by omega)
      have old:sennitref03_Match.l0 k a b T ((b.length:Int)+1) (out ++ [(-1:Int)]) (j:Int) ((i:Int)+1)=some (out ++ (-1 :: matchFrom (a.drop (i+1)) (b.drop j) j)):=by
        have:=ih0 (i+1) j (out ++ [-1]) k (by omega) hj (by simp[ho]) (by omega) (by omega)
        rw[show ((i+1:Nat):Int)=(i:Int)+1 from by omega] at this
        rw[this,z0]
      by_cases h:j < b.length
      · have xb:b[j]? = some b[j]:=List.getElem?_eq_getElem h
        have p1:=place64 ha hb (i:=i+1) (j:=b.length) (by omega) (by omega)
        have p4:=place64 ha hb (i:=i) (j:=j) (by omega) (by omega)
        have r1:=hT.at_ (i':=i+1) (j':=j) (by omega) (by omega) (by omega)
        have r2:=hT.at_ (i':=i) (j':=j+1) (by omega) (by omega) (by omega)
        have L:(T.length:Int)=((a.length:Int)+1) * ((b.length:Int)+1):=by rw[hT.1];simp
        have x1:((i+1:Nat):Int)=(i:Int)+1:=by omega
        have x2:((j+1:Nat):Int)=(j:Int)+1:=by omega
        rw[x1] at p1 r1
        rw[x2,← Int.add_assoc] at r2
        have hX:((i:Int)+1) * ((b.length:Int)+1)=(i:Int) * ((b.length:Int)+1)+((b.length:Int)+1):=by rw[Int.add_mul,Int.one_mul]
        obtain⟨X0,hX0⟩ : ∃ X0,(i:Int) * ((b.length:Int)+1)=X0:=⟨_,rfl⟩
        obtain⟨X1,hX1⟩ : ∃ X1,((i:Int)+1) * ((b.length:Int)+1)=X1:=⟨_,rfl⟩
        obtain⟨LL,hLL⟩ : ∃ LL,((a.length:Int)+1) * ((b.length:Int)+1)=LL:=⟨_,rfl⟩
        rw[hX0] at p4 r2 hX
        rw[hX1] at p1 r1 hX
        rw[hLL] at p1 p4 L
        have st:=match_step a b T ((b.length:Int)+1) i j X0 X1 out k hX0 hX1 (by omega) hX (by omega) (by omega) (by omega) (by omega) (by omega) (by omega) (by omega) (by omega) (by omega) (by omega) _ _ r1 r2
        rw[st,rd_of xa,rd_of xb]
        clear st p1 p4 r1 r2 L hX hX0 hX1 hLL
        rw[drop_cons' xa,drop_cons' xb,matchFrom_cons,← drop_cons' xa,← drop_cons' xb]
        by_cases eq:a[i]=b[j]
        · rw[if_pos eq,if_pos eq]
          have:=ih0 (i+1) (j+1) (out ++ [(j:Int)]) k (by omega) (by omega) (by simp[ho]) (by omega) (by omega)
          rw[x1,x2] at this
          rw[this]
          simp
        · rw[if_neg eq,if_neg eq]
          by_cases le:lcsL (a.drop i) (b.drop (j+1))≤lcsL (a.drop (i+1)) (b.drop j)
          · rw[if_neg (by omega),if_pos le]
            exact old
          · rw[if_pos (by omega),if_neg le]
            have:=ih1 i (j+1) out k hi (by omega) ho (by omega) (by omega)
            rw[x2] at this
            exact this
      · have b0 : ¬ (j:Int) < b.length:=by omega
        have b8:out.length < 17592186044416:=by omega
        rw[sennitref03_Match.l1,if_neg b0,if_pos b8,w1]
        have hbn:b.drop j=[]:=List.drop_of_length_le (by omega)
        rw[old,hbn,drop_cons' xa,matchFrom_none]
theorem match_gives (ha:a.length≤100) (hb:b.length≤100):Gives (fun k=>sennitref03_Match.f k a b) (matchOf a b):=by
 obtain⟨T,h1,K,h2⟩:=rest_gives ha hb;refine⟨K+(2 * a.length+b.length+1),fun k hk=>?_⟩;show sennitref03_Match.f k a b=_;rw[sennitref03_Match.f,show sennitref03_rest.f k a b=some T from h2 k (by omega),Option.bind_some,gw (by omega) (by omega)];have:=(match_l ha hb h1 (2 * a.length+b.length+1)).1 0 0 [] k (by omega) (by omega) rfl (by omega) (by omega);simpa [matchOf] using this
end
end Ref03_sec
section Ref19_sec
open Go.RowKit Go.Proofs.YthcnfflhejogfaaDoorW.PrintWords Go.Proofs.YthcnfflhejogfaaDoorW.PrintLast Go.Proofs.YthcnfflhejogfaaDoorW.PrintMore
abbrev ApiRow:=S57
def bs (l:List UInt8):ByteArray:=⟨l.toArray⟩
theorem bs_append (a b:List UInt8):bs a ++ bs b=bs (a ++ b):=by
 apply ByteArray.ext;simp[bs,ByteArray.data_append]
theorem bs_size (a:List UInt8):(bs a).size=a.length:=by simp[bs,ByteArray.size]
def rowTexts (R:List ApiRow):List ByteArray:=R.map (·.f1)
theorem ref_paired (R:List ApiRow) (l:List ByteArray) (h1:R.length≤100) (h2:l.length≤100):Gives (fun k=>sennitref19_paired.f k R l) (matchS (rowTexts R) l):=by
 have hl : ∀ (r i:Nat),i+r=R.length→Gives (fun k=>sennitref19_paired.l0 k R l (rowTexts (R.take i)) (i:Int)) (matchS (rowTexts R) l):=by
  intro r
  induction r with
  | zero =>
   intro i hi;(have e:rowTexts (R.take i)=rowTexts R:=by rw[List.take_of_length_le (by omega)]);have hids:=idsAll_map [rowTexts R,l];have hm:=matchS_num (t:=tabOf [] [rowTexts R,l]) (a:=rowTexts R) (b:=l) (fun x hx=>tabAll (ls:=[rowTexts R,l]) (by simp) hx);have hall:=ref_all [rowTexts R,l] (by simp) (by simp[rowTexts];omega) (by simp[rowTexts];omega);(rw[hids] at hall);have hma:=match_gives (a:=(rowTexts R).map (num (tabOf [] [rowTexts R,l]))) (b:=l.map (num (tabOf [] [rowTexts R,l]))) (by simp[rowTexts];omega) (by simp;omega);(rw[hm] at hma);(refine Gives.call hall (Gives.last0 hma (f:=fun k=>(sennitref03_Match.f k ((rowTexts R).map (num (tabOf [] [rowTexts R,l]))) (l.map (num (tabOf [] [rowTexts R,l])))).bind fun t=>some t) fun k hk=>?_) fun k hk=>?_);(· show Option.bind _ _=_;rw[hk,Option.bind_some]);(· show sennitref19_paired.l0 (k+1) R l _ (i:Int)=_;rw[sennitref19_paired.l0,if_neg (by omega),e,hk,Option.bind_some,if_pos (by simp),if_pos (by simp)];rfl)
  | succ r ih =>
   intro i hi;(have hil:i < R.length:=by omega)
   have tk:rowTexts (R.take (i+1))=rowTexts (R.take i) ++ [R[i].f1]:=by
    (rw[← List.take_append_getElem hil,rowTexts,List.map_append];rfl)
   have:=ih (i+1) (by omega);(rw[tk] at this);(refine this.step fun k=>?_);show sennitref19_paired.l0 (k+1) R l _ (i:Int)=_;(have hlen:(rowTexts (R.take i)).length≤100:=by simp[rowTexts];omega);have e:rd_T57 R (i:Int)=R[i]:=getN hil;rw[sennitref19_paired.l0,if_pos (by omega),if_pos (by omega),if_pos (by omega),e,gw1 (by omega)]
 (exact(hl R.length 0 (by omega)).same fun k=>rfl)
def blanksU (n at_:Nat):List UInt8:=(List.range n).map (fun i=>if i=at_ then 45 else 32)
theorem blanksU_succ (n at_:Nat):blanksU (n+1) at_=blanksU n at_ ++ [if n=at_ then 45 else 32]:=by
 simp[blanksU,List.range_succ]
theorem blanksU_len (n at_:Nat):(blanksU n at_).length=n:=by simp[blanksU]
theorem ref_blanks (n at_:Nat) (hn:n≤1000000):Gives (fun k=>sennitref19_blanks.f k (n:Int) (at_:Int)) (bs (blanksU n at_)):=by
 have hl : ∀ (r i:Nat),i+r=n→Gives (fun k=>sennitref19_blanks.l0 k (n:Int) (at_:Int) (bs (blanksU i at_)) (i:Int)) (bs (blanksU n at_)):=by
  intro r
  induction r with
  | zero =>
   intro i hi;(refine Gives.of fun k=>?_);show sennitref19_blanks.l0 (k+1) (n:Int) (at_:Int) _ (i:Int)=_;(obtain rfl:i=n:=by omega);rw[sennitref19_blanks.l0,if_neg (by omega)]
  | succ r ih =>
   intro i hi;have:=ih (i+1) (by omega);(rw[blanksU_succ] at this);(refine this.step fun k=>?_);show sennitref19_blanks.l0 (k+1) (n:Int) (at_:Int) _ (i:Int)=_;(have hs:(bs (blanksU i at_)).size=i:=by rw[bs_size,blanksU_len]);rw[sennitref19_blanks.l0,if_pos (by omega),hs,gw1 (by omega),← bs_append]
   by_cases e:i=at_
   (· (rw[if_pos (by omega),if_pos (by omega),if_pos e];rfl));(· (rw[if_neg (by omega),if_pos (by omega),if_neg e];rfl))
 (exact(hl n 0 (by omega)).same fun k=>rfl)
def comeR (col:Nat) (list:List ByteArray):List Int→List ApiRow→Nat→List ApiRow
  | m :: ms,x :: R,at_=>if 0≤m then ((list.take m.toNat).drop at_).map (fun s=>(⟨bs (blanksU (col+1) col),s⟩:ApiRow)) ++ (⟨x.f0 ++ bs [45],x.f1⟩:ApiRow) :: comeR col list ms R (m.toNat+1) else (⟨x.f0 ++ bs [32],x.f1⟩:ApiRow) :: comeR col list ms R at_
  | _,_,at_=>(list.drop at_).map (fun s=>(⟨bs (blanksU (col+1) col),s⟩:ApiRow))
section
variable {col:Nat} {list:List ByteArray} {R:List ApiRow} {ms:List Int}
theorem ref_come_l1 (hcol:col≤100) (hl:list.length≤100) (i:Int) (r:List ApiRow) : ∀ (n at_ to_:Nat) (out:List ApiRow),at_+n=to_→to_≤list.length→out.length+n≤1000 →
    Gives (fun k=>sennitref19_come.j3 k R list (col:Int) ms (out ++ ((list.take to_).drop at_).map (fun s=>(⟨bs (blanksU (col+1) col),s⟩:ApiRow))) (to_:Int) i (to_:Int)) r→Gives (fun k=>sennitref19_come.l1 k R list (col:Int) ms out (at_:Int) i (to_:Int)) r
  | 0,at_,to_,out,hn,ht,ho,h=>by
    obtain rfl:at_=to_:=by omega
    rw[List.drop_eq_nil_of_le (by rw[List.length_take];omega),List.map_nil,List.append_nil] at h
    refine h.step fun k=>?_
    show sennitref19_come.l1 (k+1) R list (col:Int) ms out (at_:Int) i (at_:Int)=_
    rw[sennitref19_come.l1,if_pos (by omega),if_neg (by omega)]
  | n+1,at_,to_,out,hn,ht,ho,h=>by
    have hal:at_ < list.length:=by omega
    have e:(list.take to_).drop at_=list[at_] :: (list.take to_).drop (at_+1):=by
      rw[List.drop_eq_getElem_cons (by rw[List.length_take];omega),List.getElem_take]
    rw[e,List.map_cons] at h
    have h':=ref_come_l1 hcol hl i r n (at_+1) to_ (out ++ [(⟨bs (blanksU (col+1) col),list[at_]⟩:ApiRow)]) (by omega) ht (by simp;omega) (by simpa using h)
    refine Gives.call (ref_blanks (col+1) col (by omega)) h' fun k hk=>?_
    show sennitref19_come.l1 (k+1) R list (col:Int) ms out (at_:Int) i (to_:Int)=_
    rw[sennitref19_come.l1,if_pos (by omega),if_pos (by omega),gw1 (by omega),hk,Option.bind_some,if_pos (by omega),if_pos (by omega),if_pos (by omega),rdOfN hal,gw1 (by omega)]
theorem ref_come_l0 (hcol:col≤100) (hl:list.length≤100) (hR:R.length≤100) (hm:ms.length=R.length) (hz : ∀ x ∈ R,x.f0.size≤1000) : ∀ (n i at_:Nat) (out:List ApiRow),i+n=R.length→Up list.length at_ (ms.drop i)→out.length≤at_+i →
    Gives (fun k=>sennitref19_come.l0 k R list (col:Int) ms out (at_:Int) (i:Int)) (out ++ comeR col list (ms.drop i) (R.drop i) at_)
  | 0,i,at_,out,hn,hu,ho=>by
    have hle:=hu.le
    have e1:ms.drop i=[]:=List.drop_eq_nil_of_le (by omega)
    rw[e1]
    have e2:comeR col list [] (R.drop i) at_=(list.drop at_).map (fun s=>(⟨bs (blanksU (col+1) col),s⟩:ApiRow)):=rfl
    rw[e2]
    have h0:Gives (fun k=>sennitref19_come.j3 k R list (col:Int) ms (out ++ ((list.take list.length).drop at_).map (fun s=>(⟨bs (blanksU (col+1) col),s⟩:ApiRow))) (list.length:Int) (i:Int) (list.length:Int)) (out ++ (list.drop at_).map (fun s=>(⟨bs (blanksU (col+1) col),s⟩:ApiRow))):=by
      rw[List.take_length]
      refine((Gives.of fun k=>?_:Gives (fun k=>sennitref19_come.l0 k R list (col:Int) ms (out ++ (list.drop at_).map (fun s=>(⟨bs (blanksU (col+1) col),s⟩:ApiRow))) (list.length:Int) ((i+1:Nat):Int)) _)).step fun k=>?_
      · show sennitref19_come.l0 (k+1) R list (col:Int) ms _ (list.length:Int) ((i+1:Nat):Int)=_
        rw[sennitref19_come.l0,if_neg (by omega)]
      · show sennitref19_come.j3 (k+1) R list (col:Int) ms _ (list.length:Int) (i:Int) (list.length:Int)=_
        rw[sennitref19_come.j3,if_neg (by omega),gw1 (by omega)]
    have h1:=ref_come_l1 (R:=R) (ms:=ms) hcol hl (i:Int) _ (list.length - at_) at_ list.length out (by omega) (Nat.le_refl _) (by omega) h0
    refine(h1.step (f:=fun k=>sennitref19_come.j1 k R list (col:Int) ms out (at_:Int) (i:Int) (list.length:Int)) fun k=>?_).step fun k=>?_
    · show sennitref19_come.j1 (k+1) R list (col:Int) ms out (at_:Int) (i:Int) (list.length:Int)=_
      rw[sennitref19_come.j1]
    · show sennitref19_come.l0 (k+1) R list (col:Int) ms out (at_:Int) (i:Int)=_
      rw[sennitref19_come.l0,if_pos (by omega),if_neg (by omega)]
  | n+1,i,at_,out,hn,hu,ho=>by
    have hiR:i < R.length:=by omega
    have him:i < ms.length:=by omega
    have e1:=dropCons him
    have e2:=dropCons hiR
    have eR:rd_T57 R (i:Int)=R[i]:=getN hiR
    have hzi:=hz R[i] (List.getElem_mem _)
    rw[e1] at hu
    rw[e1,e2]
    rcases hu with ⟨h1,hu⟩|⟨k,h1,h2,h3,hu⟩
    · rw[h1]
      have hle:=hu.le
      have e3:comeR col list (-1 :: ms.drop (i+1)) (R[i] :: R.drop (i+1)) at_=(⟨R[i].f0 ++ bs [32],R[i].f1⟩:ApiRow) :: comeR col list (ms.drop (i+1)) (R.drop (i+1)) at_:=by rw[comeR,if_neg (by decide)]
      rw[e3]
      have ih:=ref_come_l0 hcol hl hR hm hz n (i+1) at_ (out ++ [(⟨R[i].f0 ++ bs [32],R[i].f1⟩:ApiRow)]) (by omega) hu (by simp;omega)
      rw[List.append_assoc,List.singleton_append] at ih
      refine(((ih.step (f:=fun k=>sennitref19_come.j3 k R list (col:Int) ms out (at_:Int) (i:Int) (-1)) fun k=>?_).step (f:=fun k=>sennitref19_come.l1 k R list (col:Int) ms out (at_:Int) (i:Int) (-1)) fun k=>?_).step (f:=fun k=>sennitref19_come.j1 k R list (col:Int) ms out (at_:Int) (i:Int) (-1)) fun k=>?_).step fun k=>?_
      · show sennitref19_come.j3 (k+1) R list (col:Int) ms out (at_:Int) (i:Int) (-1)=_
        rw[sennitref19_come.j3,if_pos (by omega),if_neg (by decide),if_pos (by omega),eR,if_pos (by omega),if_pos (by omega),gw1 (by omega)];rfl
      · show sennitref19_come.l1 (k+1) R list (col:Int) ms out (at_:Int) (i:Int) (-1)=_
        rw[sennitref19_come.l1,if_neg (by decide)]
      · show sennitref19_come.j1 (k+1) R list (col:Int) ms out (at_:Int) (i:Int) (-1)=_
        rw[sennitref19_come.j1]
      · show sennitref19_come.l0 (k+1) R list (col:Int) ms out (at_:Int) (i:Int)=_
        rw[sennitref19_come.l0,if_pos (by omega),if_pos (by omega),if_pos (by omega),if_pos (by omega),rdN him,h1]
    · rw[h1]
      have e3:comeR col list ((k:Int) :: ms.drop (i+1)) (R[i] :: R.drop (i+1)) at_=((list.take k).drop at_).map (fun s=>(⟨bs (blanksU (col+1) col),s⟩:ApiRow)) ++ (⟨R[i].f0 ++ bs [45],R[i].f1⟩:ApiRow) :: comeR col list (ms.drop (i+1)) (R.drop (i+1)) (k+1):=by rw[comeR,if_pos (by omega),Int.toNat_natCast]
      rw[e3]
      have hlen:(((list.take k).drop at_).map (fun s=>(⟨bs (blanksU (col+1) col),s⟩:ApiRow))).length=k - at_:=by
        rw[List.length_map,List.length_drop,List.length_take];omega
      obtain⟨nw,hnw⟩ : ∃ nw,((list.take k).drop at_).map (fun s=>(⟨bs (blanksU (col+1) col),s⟩:ApiRow))=nw:=⟨_,rfl⟩
      rw[hnw] at hlen ⊢
      have ih:=ref_come_l0 hcol hl hR hm hz n (i+1) (k+1) (out ++ nw ++ [(⟨R[i].f0 ++ bs [45],R[i].f1⟩:ApiRow)]) (by omega) hu (by simp;omega)
      have e5 : ∀ l:List ApiRow,out ++ nw ++ [(⟨R[i].f0 ++ bs [45],R[i].f1⟩:ApiRow)] ++ l=out ++ (nw ++ (⟨R[i].f0 ++ bs [45],R[i].f1⟩:ApiRow) :: l):=fun l=>by simp
      rw[e5] at ih
      have h3':Gives (fun q=>sennitref19_come.j3 q R list (col:Int) ms (out ++ ((list.take k).drop at_).map (fun s=>(⟨bs (blanksU (col+1) col),s⟩:ApiRow))) (k:Int) (i:Int) (k:Int)) (out ++ (nw ++ (⟨R[i].f0 ++ bs [45],R[i].f1⟩:ApiRow) :: comeR col list (ms.drop (i+1)) (R.drop (i+1)) (k+1))):=by
        rw[hnw]
        refine ih.step fun q=>?_
        show sennitref19_come.j3 (q+1) R list (col:Int) ms (out ++ nw) (k:Int) (i:Int) (k:Int)=_
        rw[sennitref19_come.j3,if_pos (by omega),if_pos (by omega),if_pos (by omega),eR,if_pos (by omega),if_pos (by rw[List.length_append];omega),gw1 (by omega),gw1 (by omega)];rfl
      have h4:=ref_come_l1 (R:=R) (ms:=ms) hcol hl (i:Int) _ (k - at_) at_ k out (by omega) (by omega) (by omega) h3'
      refine(h4.step (f:=fun q=>sennitref19_come.j1 q R list (col:Int) ms out (at_:Int) (i:Int) (k:Int)) fun q=>?_).step fun q=>?_
      · show sennitref19_come.j1 (q+1) R list (col:Int) ms out (at_:Int) (i:Int) (k:Int)=_
        rw[sennitref19_come.j1]
      · show sennitref19_come.l0 (q+1) R list (col:Int) ms out (at_:Int) (i:Int)=_
        rw[sennitref19_come.l0,if_pos (by omega),if_pos (by omega),if_pos (by omega),if_pos (by omega),rdN him,h1]
end
theorem ref_come (R:List ApiRow) (list:List ByteArray) (col:Nat) (hcol:col≤100) (hl:list.length≤100) (hR:R.length≤100) (hz : ∀ x ∈ R,x.f0.size≤1000) :
    Gives (fun k=>sennitref19_come.f k R list (col:Int)) (comeR col list (matchS (rowTexts R) list) R 0):=by
 have h:=ref_come_l0 (ms:=matchS (rowTexts R) list) hcol hl hR (by rw[matchS_length];simp[rowTexts]) hz R.length 0 0 [] (by omega) (matchS_fits _ _).up (by simp);(refine Gives.call0 (ref_paired R list hR hl) h fun k hk=>?_);show sennitref19_come.f k R list (col:Int)=_;(rw[sennitref19_come.f,hk,Option.bind_some];rfl)
theorem rowOut_text (n:Nat) (rs:List RowG):rowTexts (rs.map (rowOut n))=rs.map (·.2):=by
 simp[rowTexts,rowOut]
theorem take_marks {x:List Int} {n:Nat} (h:n < x.length):(x.map markB).take (n+1)=(x.map markB).take n ++ [markB (x.getD n 0)]:=by
 rw[← List.take_append_getElem (by simpa using h),List.getElem_map];simp[h]
theorem rowOut_f0 (n:Nat) (x:RowG):(rowOut n x).f0=bs ((x.1.map markB).take n):=rfl
theorem rowOut_yes {n:Nat} {x:RowG} (h:x.1.length=16) (hn:n < 16):rowOut (n+1) (x.1.set n 1,x.2)=⟨(rowOut n x).f0 ++ bs [45],x.2⟩:=by
 have e:(rowOut (n+1) (x.1.set n 1,x.2))=⟨bs (((x.1.set n 1).map markB).take (n+1)),x.2⟩:=rfl;rw[e,take_marks (by simp;omega),rowOut_f0,bs_append,getD_set _ _ _ _ (by omega),if_pos rfl,List.map_set,List.take_set_of_le (Nat.le_refl _)];rfl
theorem rowOut_no {n:Nat} {x:RowG} (h:x.1.length=16) (hn:n < 16) (h0:x.1.getD n 0=0):rowOut (n+1) x=⟨(rowOut n x).f0 ++ bs [32],x.2⟩:=by
 have e:(rowOut (n+1) x)=⟨bs ((x.1.map markB).take (n+1)),x.2⟩:=rfl;rw[e,take_marks (by omega),rowOut_f0,bs_append,h0];rfl
theorem rowOut_new {n:Nat} (hn:n < 16) (s:ByteArray):rowOut (n+1) (oneRow n s)=⟨bs (blanksU (n+1) n),s⟩:=by
 have e:(rowOut (n+1) (oneRow n s))=⟨bs (((oneRow n s).1.map markB).take (n+1)),s⟩:=rfl;rw[e]
 congr 2
 (refine List.ext_getElem (by simp[blanksU_len,oneRow_len];omega) fun i h1 h2=>?_);(rw[blanksU_len] at h2);(have hi:i < (oneRow n s).1.length:=by rw[oneRow_len];omega)
 have hg:(oneRow n s).1[i]=if i=n then 1 else 0:=by
  have:=oneRow_getD hn s i;simpa [hi] using this
 rw[List.getElem_take,List.getElem_map,hg];simp only[blanksU,List.getElem_map,List.getElem_range];(split <;> rfl)
theorem comeR_rows {n:Nat} (hn:n < 16) (list:List ByteArray) : ∀ (ms:List Int) (rs:List RowG) (a:Nat),ms.length=rs.length→(∀ x ∈ rs,x.1.length=16∧x.1.getD n 0=0)→comeR n list ms (rs.map (rowOut n)) a=(comeGo n list ms rs a).map (rowOut (n+1))
 | [],[],a,hl,h=>by
  rw[comeGo_nil,List.map_map];(exact List.map_congr_left fun s _=>(rowOut_new hn s).symm)
 | [],_ :: _,a,hl,h=>by simp at hl
 | _ :: _,[],a,hl,h=>by simp at hl
 | m :: ms,x :: rs,a,hl,h=>by
  have hx:=h x List.mem_cons_self;(have ih:=fun a=>comeR_rows hn list ms rs a (by simpa using hl) (fun y hy=>h y (List.mem_cons_of_mem _ hy)));rw[List.map_cons,comeR,comeGo];split
  ·
   rw[ih,List.map_append,List.map_cons,rowOut_yes hx.1 hn,List.map_map]
   congr 1
   (exact List.map_congr_left fun s _=>(rowOut_new hn s).symm)
  (· (rw[ih,List.map_cons,rowOut_no hx.1 hn hx.2];rfl))
theorem rowOut_size (n:Nat) (x:RowG):(rowOut n x).f0.size≤n:=by
 (rw[rowOut_f0,bs_size,List.length_take];omega)
def Small19 (ls:List (List ByteArray)):Prop:=ls.length≤16 ∧ ∀ i,i < ls.length→sumLen (ls.take i)≤100∧(ls.getD i []).length≤100
theorem ref_Coalesce (ls:List (List ByteArray)) (h:Small19 ls):Gives (fun k=>sennitref19_Coalesce.f k ls) ((rowsOf ls).map (rowOut ls.length),0):=by
 have hl : ∀ (r i:Nat),i+r=ls.length→Gives (fun k=>sennitref19_Coalesce.l0 k ls ((rowsOf (ls.take i)).map (rowOut i)) (i:Int)) ((rowsOf ls).map (rowOut ls.length),0):=by
  intro r
  induction r with
  | zero =>
   intro i hi;(obtain rfl:i=ls.length:=by omega);(refine Gives.of fun k=>?_);show sennitref19_Coalesce.l0 (k+1) ls _ (ls.length:Int)=_;rw[sennitref19_Coalesce.l0,if_neg (by omega),List.take_length]
  | succ r ih =>
   intro i hi;(have hil:i < ls.length:=by omega);(have hlen:(ls.take i).length=i:=by rw[List.length_take];omega);obtain⟨s1,s2⟩:=h.2 i hil;(rw[show ls.getD i []=ls[i] by simp[hil]] at s2);have hrows:=rowsOf_le (ls.take i);have hcols:=rowsOf_cols (ls.take i) (by have:=h.1;omega);(rw[hlen] at hcols);have tk:ls.take (i+1)=ls.take i ++ [ls[i]]:=(List.take_append_getElem hil).symm;have h1:=ih (i+1) (by omega);(have hi16:i < 16:=by have:=h.1;omega);(rw[tk,rowsOf_snoc,hlen,comeF_def,← comeR_rows hi16 _ _ _ _ (comeF_len_m _ _) (fun x hx=>⟨(hcols x hx).1,(hcols x hx).2.2.1 i (Nat.le_refl _)⟩)] at h1)
   have hc:=ref_come ((rowsOf (ls.take i)).map (rowOut i)) ls[i] i (by omega) s2 (by rw[List.length_map];omega) (fun x hx=>by
    obtain⟨y,_,rfl⟩:=List.mem_map.1 hx
    have:=rowOut_size i y;omega)
   (rw[rowOut_text] at hc);(refine Gives.call hc h1 fun k hk=>?_);show sennitref19_Coalesce.l0 (k+1) ls _ (i:Int)=_;have e:rd_L8 ls (i:Int)=ls[i]:=getN hil;rw[sennitref19_Coalesce.l0,if_pos (by omega),if_neg (by rw[List.length_map];omega),if_pos (by omega),e,if_neg (by omega),hk,Option.bind_some,gw1 (by omega)]
 (refine(hl ls.length 0 (by omega)).same fun k=>?_);show sennitref19_Coalesce.f k ls=_;rw[sennitref19_Coalesce.f,if_neg (by have:=h.1;omega)];rfl
end Ref19_sec
section GapTells_sec
open Go.RowKit Go.Proofs.YthcnfflhejogfaaDoorW.PrintWords Go.Proofs.YthcnfflhejogfaaDoorW.PrintLast Go.Proofs.YthcnfflhejogfaaDoorW.PrintMore
theorem sumLen_take (n:Nat) : ∀ (ls:List (List ByteArray)) (i:Nat),(∀ l ∈ ls,l.length≤n)→sumLen (ls.take i)≤i * n
 | [],i,h=>by simp[sumLen]
 | l :: ls,0,h=>by simp[sumLen]
 | l :: ls,i+1,h=>by
  have h1:=sumLen_take n ls i (fun x hx=>h x (List.mem_cons_of_mem _ hx));have h2:=h l List.mem_cons_self;rw[Nat.succ_mul];(simp only[sumLen,List.take_succ_cons,List.map_cons,List.sum_cons] at h1 ⊢);omega
theorem few_small {ls:List (List ByteArray)} (h1:ls.length≤6) (h2 : ∀ l ∈ ls,l.length≤20 ∧ ∀ s ∈ l,s.size≤100):Small19 ls:=by
 refine⟨by omega,fun i hi=>⟨?_,?_⟩⟩;(· have:=sumLen_take 20 ls i (fun l hl=>(h2 l hl).1);omega);(· rw[show ls.getD i []=ls[i] by simp[hi]];have:=(h2 ls[i] (List.getElem_mem _)).1;omega)
theorem rowOut_byte {n c:Nat} {x:RowG} (hx:x.1.length=16) (hn:n≤16) (hc:c < n):(rowOut n x).f0.data.toList[c]? = some (markB (x.1.getD c 0)):=by
 (have hc16:c < x.1.length:=by omega);show ((x.1.map markB).take n)[c]? = _;rw[List.getElem?_take_of_lt hc,List.getElem?_map,List.getElem?_eq_getElem hc16];simp[hc16]
theorem column_colT {n c:Nat} (hn:n≤16) (hc:c < n) : ∀ (rs:List RowG),Cols n rs→((rs.map (rowOut n)).filter (fun x=>x.f0.data.toList[c]? == some 45)).map (·.f1)=colT c rs
 | [],_=>rfl
 | x :: rs,h=>by
  have hx:=h x List.mem_cons_self;have ih:=column_colT hn hc rs (fun y hy=>h y (List.mem_cons_of_mem _ hy));rw[List.map_cons,colT_cons];have hb:=rowOut_byte hx.1 hn hc
  rcases hx.2.1 c with h0|h1
  (· (rw[List.filter_cons_of_neg (by rw[hb,h0];decide),ih,if_neg (by rw[h0];decide)];rfl));(· (rw[List.filter_cons_of_pos (by rw[hb,h1];decide),List.map_cons,ih,if_pos h1];rfl))
theorem rowOut_ok {n:Nat} (hn:n≤16) {rs:List RowG} (h:Cols n rs) : ∀ x ∈ rs.map (rowOut n),x.f0.size=n∧(∀ c ∈ x.f0.data.toList,c=45∨c=32)∧45 ∈ x.f0.data.toList:=by
 intro x hx;obtain⟨y,hy,rfl⟩:=List.mem_map.1 hx;obtain⟨h1,h2,h3,c,h4,h5⟩:=h y hy;refine⟨by rw[rowOut_f0,bs_size,List.length_take,List.length_map];omega,fun b hb=>?_,?_⟩;(· have hb':b ∈ (y.1.map markB).take n:=hb;obtain⟨m,_,rfl⟩:=List.mem_map.1 (List.mem_of_mem_take hb');(unfold markB;split <;> simp));(· have:=rowOut_byte h1 hn h4;(rw[h5] at this);exact List.mem_of_getElem? this)
end GapTells_sec
section Contains_sec
open Go.RowKit Go.Proofs.YthcnfflhejogfaaDoorW.PrintWords Go.Proofs.YthcnfflhejogfaaDoorW.PrintLast Go.Proofs.YthcnfflhejogfaaDoorW.PrintMore
def longL (l:List ByteArray):Bool:=decide (2000 < l.length)
def wrongF (may:List ByteArray→Bool) (L:List (List ByteArray)):Int :=
  if L.length < 2∨17 < L.length then 1 else if L.any (fun l => !may l)=true then 2 else if L.any longL=true then 4 else 0
end Contains_sec
section Lose_sec
open Go.RowKit Go.Proofs.YthcnfflhejogfaaDoorW.PrintWords Go.Proofs.YthcnfflhejogfaaDoorW.PrintLast Go.Proofs.YthcnfflhejogfaaDoorW.PrintMore
open Go.Maps
def loseAt (N col:Nat) (parent:List ByteArray) (lost:Nat→Option (List (List ByteArray))) (to_ at_ line:Nat):Nat→Option (List (List ByteArray)) :=
  if at_ < to_ then fun q=>if q=line then some (((lost line).getD (List.replicate N [])).set col ((parent.take to_).drop at_)) else lost q else lost
end Lose_sec
section Pair_sec
open Go.RowKit Go.Proofs.YthcnfflhejogfaaDoorW.PrintWords Go.Proofs.YthcnfflhejogfaaDoorW.PrintLast Go.Proofs.YthcnfflhejogfaaDoorW.PrintMore
open Go.Maps
def pairGo (N col:Nat) (parent:List ByteArray):List Int→Nat→Nat→Nat→(Nat→Option (List (List ByteArray)))→Nat→Option (List (List ByteArray))
  | [],i,at_,last,lost=>loseAt N col parent lost parent.length at_ last
  | m :: ms,i,at_,last,lost=>if 0≤m then pairGo N col parent ms (i+1) (m.toNat+1) (i+1) (loseAt N col parent lost m.toNat at_ last) else pairGo N col parent ms (i+1) at_ last lost
def markS (m:Int):ByteArray:=if 0≤m then ⟨#[32]⟩ else ⟨#[43]⟩
def marksF (marks:List ByteArray) (ms:List Int):List ByteArray:=(marks.getD 0 ByteArray.empty ++ ⟨#[32]⟩) :: List.zipWith (fun s m=>s ++ markS m) marks.tail ms
end Pair_sec
section Put_sec
open Go.RowKit Go.Proofs.YthcnfflhejogfaaDoorW.PrintWords Go.Proofs.YthcnfflhejogfaaDoorW.PrintLast Go.Proofs.YthcnfflhejogfaaDoorW.PrintMore
open Go.Maps
def lostRows (x:Option (List (List ByteArray))):List S57:=match x with|none=>[]|some ls=>(rowsOf ls).map (rowOut ls.length)
end Put_sec
section Table_sec
open Go.RowKit Go.Proofs.YthcnfflhejogfaaDoorW.PrintWords Go.Proofs.YthcnfflhejogfaaDoorW.PrintLast Go.Proofs.YthcnfflhejogfaaDoorW.PrintMore
open Go.Maps
def marksAll (result:List ByteArray) (parents:List (List ByteArray)):List ByteArray :=
  parents.foldl (fun M p=>marksF M (matchS result p)) (⟨#[32]⟩ :: List.replicate result.length ByteArray.empty)
def lostFrom (N:Nat) (result:List ByteArray):List (List ByteArray)→Nat→(Nat→Option (List (List ByteArray)))→Nat→Option (List (List ByteArray))
  | [],_,lost=>lost
  | p :: ps,col,lost=>lostFrom N result ps (col+1) (pairGo N col p (matchS result p) 0 0 0 lost)
def lostAll (result:List ByteArray) (parents:List (List ByteArray)):Nat→Option (List (List ByteArray)):=lostFrom parents.length result parents 0 (fun _=>none)
def tableRows (result:List ByteArray) (parents:List (List ByteArray)):Nat→List S57
  | 0=>[]
  | k+1=>tableRows result parents k ++ lostRows (lostAll result parents k) ++ [⟨(marksAll result parents).getD (k+1) ByteArray.empty,result.getD k ByteArray.empty⟩]
def tableAll (result:List ByteArray) (parents:List (List ByteArray)):List S57:=tableRows result parents result.length ++ lostRows (lostAll result parents result.length)
def tableF (result:List ByteArray) (parents:List (List ByteArray)):List S57 × Int :=
  if wrongF mayL (result :: parents)≠0 then ([],wrongF mayL (result :: parents)) else (tableAll result parents,0)
def tableOk (result:List ByteArray) (parents:List (List ByteArray)):Bool :=
  decide (result.length≤1000000∧parents.length≤1000 ∧ ∀ l ∈ result :: parents,l.length≤1000000 ∧ ∀ s ∈ l,s.size≤1000000000) &&
    (decide (wrongF mayL (result :: parents)≠0) || decide (result.length+sumLen parents≤2000))
theorem marksF_length {M:List ByteArray} {ms:List Int} (h:M.length=ms.length+1):(marksF M ms).length=M.length:=by
 (simp[marksF];omega)
theorem marksF_get {M:List ByteArray} {ms:List Int} (n:Nat) (h:M.length=ms.length+1) (h0:(M.getD 0 ByteArray.empty).size=n+1) (hr : ∀ i,1≤i→i < M.length→(M.getD i ByteArray.empty).size=n) :
    ((marksF M ms).getD 0 ByteArray.empty).size=n+2 ∧ ∀ i,1≤i→i < M.length→((marksF M ms).getD i ByteArray.empty).size=n+1:=by
 refine⟨?_,fun i h1 h2=>?_⟩;(· show (M.getD 0 ByteArray.empty ++ ⟨#[32]⟩).size=_;(rw[ByteArray.size_append,h0];rfl))
 ·
  obtain⟨j,rfl⟩ : ∃ j,i=j+1:=⟨i - 1,by omega⟩;(have hj:j < ms.length:=by omega)
  have e:(marksF M ms).getD (j+1) ByteArray.empty=M.getD (j+1) ByteArray.empty ++ markS ms[j]:=by
   have hlen:=marksF_length h;rw[show (marksF M ms).getD (j+1) ByteArray.empty=(marksF M ms)[j+1]'(by omega) by simp[show j+1 < (marksF M ms).length by omega]];simp only[marksF,List.getElem_cons_succ,List.getElem_zipWith,List.getElem_tail];rw[show M.getD (j+1) ByteArray.empty=M[j+1] by simp[h2]]
  rw[e,ByteArray.size_append,hr (j+1) (by omega) h2];(unfold markS;split <;> rfl)
theorem lostFrom_snoc (N:Nat) (result:List ByteArray) : ∀ (ps:List (List ByteArray)) (p:List ByteArray) (col:Nat) (lost:Nat→Option (List (List ByteArray))),lostFrom N result (ps ++ [p]) col lost=pairGo N (col+ps.length) p (matchS result p) 0 0 0 (lostFrom N result ps col lost)
 | [],p,col,lost=>rfl
 | x :: ps,p,col,lost=>by
  rw[List.cons_append,lostFrom,lostFrom,lostFrom_snoc N result ps p (col+1) _,List.length_cons,show col+1+ps.length=col+(ps.length+1) by omega]
def marksK (result:List ByteArray) (parents:List (List ByteArray)) (k:Nat):List ByteArray:=marksAll result (parents.take k)
theorem marksK_succ (result:List ByteArray) (parents:List (List ByteArray)) {k:Nat} (h:k < parents.length):marksK result parents (k+1)=marksF (marksK result parents k) (matchS result (parents.getD k [])):=by
 rw[marksK,marksK,marksAll,marksAll,← List.take_append_getElem h,List.foldl_append,show parents.getD k []=parents[k] by simp[h]];rfl
theorem marksK_ok (result:List ByteArray) (parents:List (List ByteArray)) : ∀ k,k≤parents.length→(marksK result parents k).length=result.length+1∧((marksK result parents k).getD 0 ByteArray.empty).size=k+1 ∧ ∀ i,1≤i→i < result.length+1→((marksK result parents k).getD i ByteArray.empty).size=k
 | 0,_=>by
  refine⟨by simp[marksK,marksAll],rfl,fun i h1 h2=>?_⟩;obtain⟨j,rfl⟩ : ∃ j,i=j+1:=⟨i - 1,by omega⟩;show ((⟨#[32]⟩ :: List.replicate result.length ByteArray.empty).getD (j+1) ByteArray.empty).size=0;rw[List.getD_cons_succ];simp[List.getD_eq_getElem?_getD,List.getElem?_replicate,show j < result.length by omega]
 | k+1,hk=>by
  obtain⟨h1,h2,h3⟩:=marksK_ok result parents k (by omega);(have hl:(marksK result parents k).length=(matchS result (parents.getD k [])).length+1:=by rw[h1,matchS_length]);rw[marksK_succ _ _ (by omega)];obtain⟨g1,g2⟩:=marksF_get k hl h2 (fun i a b=>h3 i a (by omega));exact⟨by rw[marksF_length hl,h1],g1,fun i a b=>g2 i a (by omega)⟩
def lostK (result:List ByteArray) (parents:List (List ByteArray)) (k:Nat):Nat→Option (List (List ByteArray)):=lostFrom parents.length result (parents.take k) 0 (fun _=>none)
theorem lostK_succ (result:List ByteArray) (parents:List (List ByteArray)) {k:Nat} (h:k < parents.length):lostK result parents (k+1)=pairGo parents.length k (parents.getD k []) (matchS result (parents.getD k [])) 0 0 0 (lostK result parents k):=by
 rw[lostK,lostK,← List.take_append_getElem h,lostFrom_snoc,List.length_take_of_le (by omega),Nat.zero_add,show parents.getD k []=parents[k] by simp[h]]
end Table_sec
section TabRows_sec
open Go.RowKit Go.Proofs.YthcnfflhejogfaaDoorW.PrintWords Go.Proofs.YthcnfflhejogfaaDoorW.PrintLast Go.Proofs.YthcnfflhejogfaaDoorW.PrintMore
theorem index45_cases (u:List UInt8):(¬ (45:UInt8) ∈ u∧Lib.indexByte u 45 = -1)∨((45:UInt8) ∈ u∧0≤Lib.indexByte u 45):=by
 induction u with
 | nil=>left;simp[Lib.indexByte]
 | cons x xs ih =>
  simp only[Lib.indexByte,List.mem_cons]
  by_cases e:x=45
  (· (right;simp[e]))
  ·
   (have e':(x == 45)=false:=by simp[e]);(have e2 : ¬ (45:UInt8)=x:=fun h=>e h.symm);rw[e']
   rcases ih with ⟨h1,h2⟩|⟨h1,h2⟩
   (· (left;simp[h1,h2,e2]));(· right;refine⟨.inr h1,?_⟩;rw[if_neg (by decide),if_neg (by simp;omega)];omega)
theorem index45 (u:List UInt8):decide (0≤Lib.indexByte u 45)=decide ((45:UInt8) ∈ u):=by
 rw[decide_eq_decide]
 rcases index45_cases u with ⟨h1,h2⟩|⟨h1,h2⟩
 (· simp[h1,h2]);(· simp[h1,h2])
theorem byte45 (c:UInt8):((c.toNat:Int)=45)↔c=45:=by
 constructor;(· intro h;(have:c.toNat=45:=by omega);exact UInt8.toNat_inj.1 this);(· (rintro rfl;rfl))
theorem lostB_mem (s:ByteArray):lostB s=decide ((45:UInt8) ∈ s.data.toList):=index45 _
section
variable {R:List ApiRow}
end
end TabRows_sec
section TabMath_sec
open Go.RowKit Go.Proofs.YthcnfflhejogfaaDoorW.PrintWords Go.Proofs.YthcnfflhejogfaaDoorW.PrintLast Go.Proofs.YthcnfflhejogfaaDoorW.PrintMore
def nextM:List Int→Nat→Nat
  | [],n=>n
  | m :: t,n=>if 0≤m then m.toNat else nextM t n
def fromM (ms:List Int):Nat→Option Nat
  | 0=>some 0
  | q+1=>if 0≤ms.getD q (-1) then some ((ms.getD q (-1)).toNat+1) else none
def segL (p:List ByteArray) (ms:List Int) (q:Nat):List ByteArray :=
  match fromM ms q with
  | none=>[]
  | some a=>(p.take (nextM (ms.drop q) p.length)).drop a
def updSeg (N col:Nat) (p:List ByteArray) (ms:List Int) (lost:Nat→Option (List (List ByteArray))) (q:Nat):Option (List (List ByteArray)) :=
  if segL p ms q=[] then lost q else some (((lost q).getD (List.replicate N [])).set col (segL p ms q))
theorem Fits.next {list:List ByteArray} : ∀ {ms:List Int} {ss:List ByteArray} {lo:Nat},Fits list ms ss lo→lo≤nextM ms list.length∧nextM ms list.length≤list.length
 | [],[],lo,h=>⟨h,Nat.le_refl _⟩
 | [],_ :: _,lo,h=>h.elim
 | m :: ms,s :: ss,lo,h=>by
  rcases h with ⟨rfl,h⟩|⟨k,rfl,h1,h2,h3⟩
  (· (rw[nextM,if_neg (by decide)];exact h.next));(· have:=(List.getElem?_eq_some_iff.1 h2).1;(rw[nextM,if_pos (by omega),Int.toNat_natCast];omega))
 | _ :: _,[],lo,h=>h.elim
theorem Fits.at_ {list:List ByteArray} : ∀ {ms:List Int} {ss:List ByteArray} {lo:Nat},Fits list ms ss lo → ∀ q,q < ms.length→(ms.getD q (-1) = -1) ∨ ∃ k:Nat,ms.getD q (-1)=(k:Int)∧list[k]? = ss[q]? ∧ k < list.length∧k+1≤nextM (ms.drop (q+1)) list.length
 | [],ss,lo,h,q,hq=>absurd hq (by simp)
 | m :: ms,s :: ss,lo,h,0,hq=>by
  rcases h with ⟨rfl,h⟩|⟨k,rfl,h1,h2,h3⟩
  (· exact .inl rfl);(· exact .inr ⟨k,rfl,by rw[h2];rfl,(List.getElem?_eq_some_iff.1 h2).1,h3.next.1⟩)
 | m :: ms,s :: ss,lo,h,q+1,hq=>by
  (have hq':q < ms.length:=by simpa using hq)
  rcases h with ⟨rfl,h⟩|⟨k,rfl,h1,h2,h3⟩
  (· exact h.at_ q hq');(· exact h3.at_ q hq')
 | _ :: _,[],lo,h,q,hq=>h.elim
theorem Fits.drop_next {list:List ByteArray} : ∀ {ms:List Int} {ss:List ByteArray} {lo:Nat},Fits list ms ss lo → ∀ q,nextM (ms.drop q) list.length≤list.length
 | ms,ss,lo,h,0=>h.next.2
 | [],ss,lo,h,q+1=>Nat.le_refl _
 | m :: ms,s :: ss,lo,h,q+1=>by
  rcases h with ⟨rfl,h⟩|⟨k,rfl,h1,h2,h3⟩
  (· exact h.drop_next q);(· exact h3.drop_next q)
 | _ :: _,[],lo,h,q+1=>h.elim
theorem Fits.from_le {list ss:List ByteArray} {ms:List Int} (h:Fits list ms ss 0) {q a:Nat} (e:fromM ms q=some a):a≤nextM (ms.drop q) list.length:=by
 cases q with
 | zero=>obtain rfl:=(Option.some.inj e).symm;exact Nat.zero_le _
 | succ q =>
  (rw[fromM] at e);(split at e)
  ·
   rename_i h0
   have hq:q < ms.length:=by
    apply Classical.byContradiction;intro hn;(rw[List.getD_eq_getElem?_getD,List.getElem?_eq_none (by omega)] at h0);(simp at h0)
   rcases h.at_ q hq with h1|⟨k,h1,_,_,h2⟩
   (· (rw[h1] at h0;omega));(· (rw[h1] at e;have:=Option.some.inj e;simp at this;omega))
  (· cases e)
theorem nextM_skip {ms:List Int} {L:Nat} (last:Nat) : ∀ (n:Nat),last+n≤ms.length→(∀ j,last≤j→j < last+n→ms.getD j (-1) < 0)→nextM (ms.drop last) L=nextM (ms.drop (last+n)) L
 | 0,_,_=>rfl
 | n+1,hl,hn=>by
  rw[nextM_skip last n (by omega) (fun j h1 h2=>hn j h1 (by omega)),dropCons (i:=last+n) (by omega),nextM];have:=hn (last+n) (by omega) (by omega);(rw[show ms.getD (last+n) (-1)=ms[last+n] by simp[List.getD_eq_getElem?_getD,List.getElem?_eq_getElem (show last+n < ms.length by omega)]] at this);(rw[if_neg (by omega)];rfl)
theorem fromM_none {ms:List Int} {last i q:Nat} (h : ∀ j,last≤j→j < i→ms.getD j (-1) < 0) (h1:last < q) (h2:q≤i∨ms.length≤i):fromM ms q=none:=by
 obtain⟨q,rfl⟩ : ∃ q',q=q'+1:=⟨q - 1,by omega⟩;rw[fromM]
 have:ms.getD q (-1) < 0:=by
  by_cases hq:q < i
  (· exact h q (by omega) hq);(· (rw[List.getD_eq_getElem?_getD,List.getElem?_eq_none (by omega)];decide))
 rw[if_neg (by omega)]
theorem segL_none {p:List ByteArray} {ms:List Int} {q:Nat} (h:fromM ms q=none):segL p ms q=[]:=by rw[segL,h]
theorem loseAt_eq {N col:Nat} {p:List ByteArray} {ms:List Int} {lost:Nat→Option (List (List ByteArray))} {at_ last:Nat} (hF:nextM (ms.drop last) p.length≤p.length) (ha:fromM ms last=some at_) (q:Nat) :
    loseAt N col p lost (nextM (ms.drop last) p.length) at_ last q=if q=last then updSeg N col p ms lost q else lost q:=by
 (have hs:segL p ms last=(p.take (nextM (ms.drop last) p.length)).drop at_:=by rw[segL,ha])
 by_cases hq:q=last
 ·
  subst hq;rw[if_pos rfl,updSeg,hs,loseAt]
  by_cases h:at_ < nextM (ms.drop q) p.length
  (· (have hne : ¬ (p.take (nextM (ms.drop q) p.length)).drop at_=[]:=by rw[List.drop_eq_nil_iff,List.length_take];omega);rw[if_pos h,if_neg hne];exact if_pos rfl);(· rw[if_neg h,if_pos (List.drop_eq_nil_iff.2 (by simp;omega))])
 ·
  rw[if_neg hq,loseAt];split;(· simp[hq]);(· rfl)
theorem pairGo_eq {N col:Nat} {p ss:List ByteArray} {ms:List Int} (hF:Fits p ms ss 0) : ∀ (t:List Int) (i at_ last:Nat) (lost:Nat→Option (List (List ByteArray))),ms.drop i=t→last≤i→i≤ms.length→fromM ms last=some at_→(∀ j,last≤j→j < i→ms.getD j (-1) < 0) →
    ∀ q,pairGo N col p t i at_ last lost q=if q < last then lost q else updSeg N col p ms lost q
  | [],i,at_,last,lost,hd,hli,hi,ha,hn,q=>by
    have hlen:ms.length≤i:=List.drop_eq_nil_iff.1 hd
    have hnx:nextM (ms.drop last) p.length=p.length:=by
      rw[nextM_skip last (i - last) (by omega) (fun j a b=>hn j a (by omega)),show last+(i - last)=i by omega,hd];rfl
    have:=loseAt_eq (N:=N) (col:=col) (lost:=lost) (by rw[hnx];exact Nat.le_refl _) ha q
    rw[hnx] at this
    rw[pairGo,this]
    by_cases h1:q < last
    · rw[if_neg (by omega),if_pos h1]
    · rw[if_neg h1]
      by_cases h2:q=last
      · rw[if_pos h2]
      · rw[if_neg h2,updSeg,if_pos (segL_none (fromM_none hn (by omega) (.inr hlen)))]
  | m :: t,i,at_,last,lost,hd,hli,hi,ha,hn,q=>by
    have hil:i < ms.length:=by
      apply Classical.byContradiction
      intro h
      rw[List.drop_of_length_le (by omega)] at hd
      cases hd
    rw[dropCons hil] at hd
    have hm:ms[i]=m:=(List.cons.inj hd).1
    have ht:ms.drop (i+1)=t:=(List.cons.inj hd).2
    have hg:ms.getD i (-1)=m:=by rw[← hm];simp[List.getD_eq_getElem?_getD,List.getElem?_eq_getElem hil]
    rw[pairGo]
    by_cases h0:0≤m
    · rw[if_pos h0,pairGo_eq hF t (i+1) (m.toNat+1) (i+1) _ ht (Nat.le_refl _) hil (by rw[fromM,hg,if_pos h0]) (fun j a b=>by omega) q]
      have hnx:nextM (ms.drop last) p.length=m.toNat:=by
        rw[nextM_skip last (i - last) (by omega) (fun j a b=>hn j a (by omega)),show last+(i - last)=i by omega,dropCons hil,nextM,hm,if_pos h0]
      have:=loseAt_eq (N:=N) (col:=col) (lost:=lost) (hF.drop_next last) ha
      rw[hnx] at this
      by_cases h1:q < last
      · rw[if_pos (by omega),if_pos h1,this q,if_neg (by omega)]
      · rw[if_neg h1]
        by_cases h2:q=last
        · rw[if_pos (by omega),this q,if_pos h2]
        · by_cases h3:q < i+1
          · rw[if_pos h3,this q,if_neg h2,updSeg,if_pos (segL_none (fromM_none hn (by omega) (.inl (by omega))))]
          · rw[if_neg h3,updSeg,updSeg,this q,if_neg h2]
    · rw[if_neg h0,pairGo_eq hF t (i+1) at_ last lost ht (by omega) hil ha (fun j a b=>by
        by_cases hj:j=i
        · subst hj;rw[hg];omega
        · exact hn j a (by omega)) q]
def segsL (result:List ByteArray) (ps:List (List ByteArray)) (q:Nat):List (List ByteArray):=ps.map (fun p=>segL p (matchS result p) q)
theorem segsL_length (result:List ByteArray) (ps:List (List ByteArray)) (q:Nat):(segsL result ps q).length=ps.length:=List.length_map ..
theorem empties {ls:List (List ByteArray)} (h:ls.all (·.isEmpty)=true):ls=List.replicate ls.length []:=by
 induction ls with
 | nil=>rfl
 | cons l t ih =>
  (simp only[List.all_cons,Bool.and_eq_true,List.isEmpty_iff] at h);rw[List.length_cons,List.replicate_succ,h.1,← ih h.2]
theorem lostK_eq (result:List ByteArray) (parents:List (List ByteArray)) (q:Nat) : ∀ k,k≤parents.length→lostK result parents k q=if (segsL result (parents.take k) q).all (·.isEmpty)=true then none else some (segsL result (parents.take k) q ++ List.replicate (parents.length - k) [])
 | 0,_=>by
  (rw[List.take_zero];rfl)
 | k+1,hk=>by
  (have hkl:k < parents.length:=by omega);have ih:=lostK_eq result parents q k (by omega);have hpg:pairGo parents.length k (parents.getD k []) (matchS result (parents.getD k [])) 0 0 0 (lostK result parents k) q=_:=pairGo_eq (matchS_fits result _) _ 0 0 0 _ rfl (Nat.le_refl _) (Nat.zero_le _) rfl (fun j a b=>by omega) q;rw[lostK_succ _ _ hkl,hpg,if_neg (by omega),updSeg];(have hp:parents.getD k []=parents[k]:=by simp[hkl])
  have hs:segsL result (parents.take (k+1)) q=segsL result (parents.take k) q ++ [segL (parents.getD k []) (matchS result (parents.getD k [])) q]:=by
   (rw[← List.take_append_getElem hkl,segsL,List.map_append,hp];rfl)
  rw[hs];obtain⟨S,hS⟩ : ∃ S,segsL result (parents.take k) q=S:=⟨_,rfl⟩;obtain⟨s,hs1⟩ : ∃ s,segL (parents.getD k []) (matchS result (parents.getD k [])) q=s:=⟨_,rfl⟩;(have hSl:S.length=k:=by rw[← hS,segsL_length,List.length_take];omega);(rw[hS] at ih);rw[hS,hs1]
  have hrep:List.replicate (parents.length - k) ([]:List ByteArray)=[] :: List.replicate (parents.length - (k+1)) []:=by
   rw[show parents.length - k=(parents.length - (k+1))+1 by omega,List.replicate_succ]
  by_cases e:s=[]
  (· subst e;rw[if_pos rfl,ih,List.all_append];have:([[]]:List (List ByteArray)).all (·.isEmpty)=true:=rfl;rw[this,Bool.and_true,hrep];simp)
  ·
   have hne:(S ++ [s]).all (·.isEmpty)=false:=by
    rw[List.all_append]
    have:([s]:List (List ByteArray)).all (·.isEmpty)=false:=by
     cases s with
     | nil=>exact absurd rfl e
     | cons a b=>rfl
    rw[this,Bool.and_false]
   rw[if_neg e,hne,if_neg (by decide)]
   have hget:(lostK result parents k q).getD (List.replicate parents.length [])=S ++ List.replicate (parents.length - k) []:=by
    rw[ih]
    by_cases ha:S.all (·.isEmpty)=true
    ·
     rw[if_pos ha,Option.getD_none];have:=empties ha;(rw[hSl] at this);rw[this,List.replicate_append_replicate]
     congr 1;omega
    (· (rw[if_neg ha];rfl))
   (rw[hget,hrep,List.set_append,if_neg (by omega),hSl,Nat.sub_self,List.set_cons_zero,List.append_assoc];rfl)
theorem lostAll_eq (result:List ByteArray) (parents:List (List ByteArray)) (q:Nat):lostAll result parents q=if (segsL result parents q).all (·.isEmpty)=true then none else some (segsL result parents q):=by
 have:=lostK_eq result parents q parents.length (Nat.le_refl _);(rw[List.take_length,Nat.sub_self,List.replicate_zero,List.append_nil,lostK,List.take_length] at this);exact this
theorem rowsOf_empties {ls:List (List ByteArray)} (h:ls.all (·.isEmpty)=true):rowsOf ls=[]:=by
 have h1:=rowsOf_le ls
 have h2:sumLen ls=0:=by
  (rw[empties h];simp[sumLen])
 (rw[h2] at h1);exact List.length_eq_zero_iff.1 (by omega)
theorem lostRows_eq (result:List ByteArray) (parents:List (List ByteArray)) (q:Nat):lostRows (lostAll result parents q)=(rowsOf (segsL result parents q)).map (rowOut parents.length):=by
 rw[lostAll_eq]
 by_cases h:(segsL result parents q).all (·.isEmpty)=true
 (· (rw[if_pos h,lostRows,rowsOf_empties h];rfl));(· rw[if_neg h,lostRows,segsL_length])
def marksU (result:List ByteArray) (ps:List (List ByteArray)) (k:Nat):List UInt8:=ps.map (fun p=>if 0≤(matchS result p).getD k 0 then 32 else 43)
theorem markS_bs (m:Int):markS m=bs [if 0≤m then 32 else 43]:=by
 unfold markS;(split <;> rfl)
theorem marksK_eq (result:List ByteArray) (parents:List (List ByteArray)) (q:Nat) (hq:q < result.length) : ∀ k,k≤parents.length→(marksK result parents k).getD (q+1) ByteArray.empty=bs (marksU result (parents.take k) q)
 | 0,_=>by
  show ((⟨#[32]⟩ :: List.replicate result.length ByteArray.empty).getD (q+1) ByteArray.empty)=_;rw[List.getD_cons_succ];simp[List.getD_eq_getElem?_getD,List.getElem?_replicate,hq,marksU];rfl
 | k+1,hk=>by
  (have hkl:k < parents.length:=by omega);(have hp:parents.getD k []=parents[k]:=by simp[hkl]);have hM:=(marksK_ok result parents k (by omega)).1;have ih:=marksK_eq result parents q hq k (by omega);rw[marksK_succ _ _ hkl,marksF,List.getD_cons_succ];have hml:=matchS_length result (parents.getD k []);(have h1:q < (marksK result parents k).tail.length:=by simp[hM];exact hq);(have h2:q < (matchS result (parents.getD k [])).length:=by rw[hml];exact hq)
  have h3:(marksK result parents k).tail[q]=(marksK result parents k).getD (q+1) ByteArray.empty:=by
   (rw[List.getElem_tail];simp[List.getD_eq_getElem?_getD,List.getElem?_eq_getElem (show q+1 < (marksK result parents k).length by omega)])
  (have h4:(matchS result (parents.getD k [])).getD q 0=(matchS result (parents.getD k []))[q]:=by rw[List.getD_eq_getElem?_getD,List.getElem?_eq_getElem h2];rfl);rw[List.getD_eq_getElem?_getD,List.getElem?_zipWith,List.getElem?_eq_getElem h1,List.getElem?_eq_getElem h2];show (marksK result parents k).tail[q] ++ markS (matchS result (parents.getD k []))[q]=_;(rw[h3,ih,markS_bs,bs_append,← List.take_append_getElem hkl,marksU,marksU,List.map_append,← hp,← h4];rfl)
theorem marksAll_eq (result:List ByteArray) (parents:List (List ByteArray)) (q:Nat) (hq:q < result.length):(marksAll result parents).getD (q+1) ByteArray.empty=bs (marksU result parents q):=by
 have:=marksK_eq result parents q hq parents.length (Nat.le_refl _)
 rwa [marksK,List.take_length] at this
def segRows (result:List ByteArray) (parents:List (List ByteArray)) (q:Nat):List ApiRow:=(rowsOf (segsL result parents q)).map (rowOut parents.length)
theorem tableRows_succ (result:List ByteArray) (parents:List (List ByteArray)) (k:Nat) (hk:k < result.length):tableRows result parents (k+1)=tableRows result parents k ++ segRows result parents k ++ [⟨bs (marksU result parents k),result[k]⟩]:=by
 (rw[tableRows,lostRows_eq,marksAll_eq _ _ _ hk,show result.getD k ByteArray.empty=result[k] by simp[hk]];rfl)
theorem tableAll_eq (result:List ByteArray) (parents:List (List ByteArray)):tableAll result parents=tableRows result parents result.length ++ segRows result parents result.length:=by
 (rw[tableAll,lostRows_eq];rfl)
theorem segL_length_le (p:List ByteArray) (ms:List Int) (q:Nat):(segL p ms q).length≤p.length:=by
 unfold segL;split;(· simp);(· (simp;omega))
theorem segL_mem {p:List ByteArray} {ms:List Int} {q:Nat} {s:ByteArray} (h:s ∈ segL p ms q):s ∈ p:=by
 (unfold segL at h);(split at h);(· cases h);(· exact List.mem_of_mem_take (List.mem_of_mem_drop h))
end TabMath_sec
section TabTells_sec
open Go.RowKit Go.Proofs.YthcnfflhejogfaaDoorW.PrintWords Go.Proofs.YthcnfflhejogfaaDoorW.PrintLast Go.Proofs.YthcnfflhejogfaaDoorW.PrintMore
def FewT (result:List ByteArray) (ls:List (List ByteArray)):Prop:=(result.length≤16 ∧ ∀ s ∈ result,s.size≤100)∧ls.length≤6 ∧ ∀ l ∈ ls,l.length≤16 ∧ ∀ s ∈ l,s.size≤100
theorem ref_Few20 (result:List ByteArray) (ls:List (List ByteArray)) : ∃ b,Gives (fun k=>sennitref20_Few.f k result ls) b∧(b=true→FewT result ls):=by
 have he:Gives (fun k=>sennitref01_Few.f k result 16) (fewB result 16):=ref_few01 result 16 (by omega)
 have hlast : ∀ i:Nat,(i=ls.length∨i=7)→(∀ l ∈ ls.take i,fewB l 16=true) → ∃ b,Gives (fun k=>sennitref20_Few.j1 k result ls (i:Int) false) b∧(b=true→fewB result 16=true∧ls.length≤6 ∧ ∀ l ∈ ls,fewB l 16=true):=by
  intro i hi hP;refine⟨fewB result 16 && decide ((ls.length:Int)≤6),Gives.last he fun k hk=>?_,fun h=>?_⟩;(· show sennitref20_Few.j1 (k+1) result ls (i:Int) false=_;rw[sennitref20_Few.j1,if_neg (by decide),hk,Option.bind_some];(cases fewB result 16 <;> rfl));(· (rw[Bool.and_eq_true] at h);have h6:=of_decide_eq_true h.2;(rw[List.take_of_length_le (by omega)] at hP);exact⟨h.1,by omega,hP⟩)
 have hmain : ∀ (r i:Nat),i+r=min ls.length 7→(∀ l ∈ ls.take i,fewB l 16=true) → ∃ b,Gives (fun k=>sennitref20_Few.l0 k result ls (i:Int)) b∧(b=true→fewB result 16=true∧ls.length≤6 ∧ ∀ l ∈ ls,fewB l 16=true):=by
  intro r
  induction r with
  | zero =>
   intro i hi hP;obtain⟨b,h1,h2⟩:=hlast i (by omega) hP;refine⟨b,h1.step fun k=>?_,h2⟩;show sennitref20_Few.l0 (k+1) result ls (i:Int)=_;rw[sennitref20_Few.l0]
   by_cases h:i < ls.length
   (· rw[if_pos (by omega),decide_eq_false (by omega)]);(· rw[if_neg (by omega)])
  | succ r ih =>
   intro i hi hP;(have hil:i < ls.length:=by omega);have e:rd_L8 ls (i:Int)=ls[i]:=getN hil;have hf:=ref_few01 ls[i] 16 (by omega)
   have h0 : ∀ b,Gives (fun k=>sennitref20_Few.j1 k result ls (i:Int) true) b→Gives (fun k=>sennitref20_Few.l0 k result ls (i:Int)) b:=fun b hb=>hb.step fun k=>by
    show sennitref20_Few.l0 (k+1) result ls (i:Int)=_;rw[sennitref20_Few.l0,if_pos (by omega),decide_eq_true (by omega)]
   cases hb:fewB ls[i] 16 with
   | true =>
    obtain⟨b,h1,h2⟩:=ih (i+1) (by omega) (fun l hl=>by
     (rw[← List.take_append_getElem hil] at hl)
     rcases List.mem_append.1 hl with hl|hl
     (· exact hP l hl)
     ·
      rw[List.mem_singleton.1 hl];exact hb)
    refine⟨b,h0 b (Gives.call hf h1 fun k hk=>?_),h2⟩;show sennitref20_Few.j1 (k+1) result ls (i:Int) true=_;(have hk':sennitref01_Few.f k ls[i] 16=some true:=by rw[← hb];exact hk);rw[sennitref20_Few.j1,if_pos rfl,if_pos (by omega),if_pos (by omega),e,hk',Option.bind_some,if_pos rfl,gw1 (by omega)]
   | false =>
    refine⟨false,h0 false (Gives.last hf fun k hk=>?_),fun h=>by cases h⟩;show sennitref20_Few.j1 (k+1) result ls (i:Int) true=_;(have hk':sennitref01_Few.f k ls[i] 16=some false:=by rw[← hb];exact hk);rw[sennitref20_Few.j1,if_pos rfl,if_pos (by omega),if_pos (by omega),e,hk',Option.bind_some,if_neg (by decide)]
 obtain⟨b,h1,h2⟩:=hmain (min ls.length 7) 0 (by omega) (by simp);refine⟨b,h1.same fun k=>rfl,fun h=>?_⟩;obtain⟨h3,h4,h5⟩:=h2 h;exact⟨of_decide_eq_true h3,h4,fun l hl=>of_decide_eq_true (h5 l hl)⟩
section
variable {result:List ByteArray} {ls:List (List ByteArray)}
theorem FewT.sum (h:FewT result ls):sumLen ls≤96:=by
 have:=sumLen_take 16 ls ls.length (fun l hl=>(h.2.2 l hl).1);(rw[List.take_length] at this);have:=h.2.1;omega
theorem FewT.ok (h:FewT result ls):tableOk result ls=true:=by
 obtain⟨⟨h1,h2⟩,h3,h4⟩:=h;have h5:sumLen ls≤96:=FewT.sum ⟨⟨h1,h2⟩,h3,h4⟩;rw[tableOk,Bool.and_eq_true,Bool.or_eq_true];refine⟨decide_eq_true ⟨by omega,by omega,?_⟩, .inr (decide_eq_true (by omega))⟩;intro l hl
 rcases List.mem_cons.1 hl with rfl|hl
 (· exact⟨by omega,fun s hs=>by have:=h2 s hs;omega⟩);(· have:=(h4 l hl).1;exact⟨by omega,fun s hs=>by have:=(h4 l hl).2 s hs;omega⟩)
theorem ref_wrong_l0 (h : ∀ l ∈ ls,l.length≤2000 ∧ ∀ s ∈ l,s.size≤1000000) (hn:ls.length≤1000) : ∀ (r i:Nat) (m:Bool),i+r=ls.length→Gives (fun k=>sennitref20_wrong.l0 k ls m false (i:Int)) (if (m && (ls.drop i).all mayL)=true then 0 else 2):=by
 intro r
 induction r with
 | zero =>
  intro i m hi;(refine Gives.of fun k=>?_);show sennitref20_wrong.l0 (k+1) ls m false (i:Int)=_;rw[sennitref20_wrong.l0,if_neg (by omega),List.drop_of_length_le (by omega)];(cases m <;> rfl)
 | succ r ih =>
  intro i m hi;(have hil:i < ls.length:=by omega);have e:rd_L8 ls (i:Int)=ls[i]:=getN hil;have hz:=h ls[i] (List.getElem_mem _);rw[dropCons hil,List.all_cons]
  cases m with
  | true =>
   have hm:=ref_May01 ls[i] (by omega) hz.2;have:=ih (i+1) (mayL ls[i]) (by omega);rw[Bool.true_and];(refine Gives.call hm this fun k hk=>?_);show sennitref20_wrong.l0 (k+1) ls true false (i:Int)=_;rw[sennitref20_wrong.l0,if_pos (by omega),if_pos rfl,if_pos (by omega),e,hk,Option.bind_some,if_neg (by decide),gw1 (by omega),decide_eq_false (by omega)]
  | false =>
   have:=ih (i+1) false (by omega);(refine(this.eq rfl).step fun k=>?_);show sennitref20_wrong.l0 (k+1) ls false false (i:Int)=_;rw[sennitref20_wrong.l0,if_pos (by omega),if_neg (by decide),if_neg (by decide),if_pos (by omega),e,gw1 (by omega),decide_eq_false (by omega)]
theorem ref_wrong20 (h:FewT result ls):Gives (fun k=>sennitref20_wrong.f k result ls) (wrongF mayL (result :: ls)):=by
 obtain⟨⟨h1,h2⟩,h3,h4⟩:=h
 by_cases h0:ls.length=0
 ·
  (have e:wrongF mayL (result :: ls)=1:=by rw[wrongF,if_pos (by simp;omega)]);rw[e];(refine(Gives.of (f:=fun k=>sennitref20_wrong.j0 k result ls true) fun k=>?_).same fun k=>?_);(· show sennitref20_wrong.j0 (k+1) result ls true=_;rw[sennitref20_wrong.j0,if_pos rfl]);(· show sennitref20_wrong.f k result ls=_;rw[sennitref20_wrong.f,if_pos (by omega)])
 ·
  have hl:(result :: ls).any longL=false:=by
   rw[List.any_eq_false];intro l hl
   rcases List.mem_cons.1 hl with rfl|hl
   (· (simp[longL];omega));(· (have:=(h4 l hl).1;simp[longL];omega))
  have e:wrongF mayL (result :: ls)=(if (mayL result && (ls.drop 0).all mayL)=true then 0 else 2):=by
   rw[wrongF,if_neg (by simp;omega),hl,if_neg (show ¬ false=true by decide),List.drop_zero]
   by_cases hm:(mayL result && ls.all mayL)=true
   (· rw[if_pos hm,if_neg];(rw[← List.all_cons (f:=mayL)] at hm);simp only[List.any_eq_true,not_exists,not_and];intro x hx hc;(rw[List.all_eq_true.1 hm x hx] at hc;cases hc))
   ·
    rw[if_neg hm,if_pos];(rw[← List.all_cons (f:=mayL),List.all_eq_true] at hm);rw[List.any_eq_true];apply Classical.byContradiction;intro hc;apply hm;intro x hx
    cases hmx:mayL x with
    | true=>rfl
    | false=>exact absurd ⟨x,hx,by rw[hmx];rfl⟩ hc
  rw[e];have hm:=ref_May01 result (by omega) (fun s hs=>by have:=h2 s hs;omega);have hw:=ref_wrong_l0 (ls:=ls) (fun l hl=>⟨by have:=(h4 l hl).1;omega,fun s hs=>by have:=(h4 l hl).2 s hs;omega⟩) (by omega) ls.length 0 (mayL result) (by omega);(refine(Gives.call hm hw (f:=fun k=>sennitref20_wrong.j0 k result ls false) fun k hk=>?_).same fun k=>?_);(· show sennitref20_wrong.j0 (k+1) result ls false=_;(rw[sennitref20_wrong.j0,if_neg (by decide),hk,Option.bind_some,decide_eq_false (by omega)];rfl));(· show sennitref20_wrong.f k result ls=_;rw[sennitref20_wrong.f,if_neg (by omega),decide_eq_false (by omega)])
end
theorem ref_lost20_l0 {p:List ByteArray} {ms:List Int} {a:Nat} {q:Nat} (hp:p.length≤100000) (hml:ms.length≤100000) (hx : ∀ q,nextM (ms.drop q) p.length≤p.length) (ha:a≤nextM (ms.drop q) p.length) : ∀ (r i:Nat),q+r=i→i≤ms.length →
    Gives (fun k=>sennitref20_lost.l0 k p ms (q:Int) (a:Int) (nextM (ms.drop i) p.length:Int) ((i:Int) - 1)) ((p.take (nextM (ms.drop q) p.length)).drop a):=by
 intro r
 induction r with
 | zero =>
  intro i hi hil;(obtain rfl:q=i:=by omega);have:=hx q;(refine Gives.of fun k=>?_);show sennitref20_lost.l0 (k+1) p ms (q:Int) (a:Int) _ _=_;rw[sennitref20_lost.l0,if_neg (by omega),if_pos (by omega),if_pos (by omega),if_pos (by omega),Int.toNat_natCast,Int.toNat_natCast]
 | succ r ih =>
  intro i hi hil;obtain⟨j,rfl⟩ : ∃ j,i=j+1:=⟨i - 1,by omega⟩;(have hj:j < ms.length:=by omega);(have e:(((j+1:Nat):Int) - 1)=(j:Int):=by omega);have:=ih j (by omega) (by omega);rw[e];(refine this.step fun k=>?_);show sennitref20_lost.l0 (k+1) p ms (q:Int) (a:Int) _ _=_;rw[sennitref20_lost.l0,if_pos (by omega),if_pos (by omega),if_pos (by omega),rdN hj,gw (x:=(j:Int) - 1) (by omega) (by omega)];(have hn:nextM (ms.drop j) p.length=if 0≤ms[j] then ms[j].toNat else nextM (ms.drop (j+1)) p.length:=by rw[dropCons hj,nextM]);rw[hn]
  by_cases h:0≤ms[j]
  (· rw[if_pos h,if_pos h,Int.toNat_of_nonneg h]);(· rw[if_neg h,if_neg h])
theorem ref_lost20 {p ss:List ByteArray} {ms:List Int} (hF:Fits p ms ss 0) (hp:p.length≤100000) (hml:ms.length≤100000) (q:Nat) (hq:q≤ms.length):Gives (fun k=>sennitref20_lost.f k p ms (q:Int)) (segL p ms q):=by
 have hj : ∀ a,fromM ms q=some a→Gives (fun k=>sennitref20_lost.j0 k p ms (q:Int) (a:Int)) (segL p ms q):=fun a ha=>by
  have:=ref_lost20_l0 hp hml hF.drop_next (hF.from_le ha) (ms.length - q) ms.length (by omega) (Nat.le_refl _);(rw[List.drop_of_length_le (Nat.le_refl _)] at this);rw[segL,ha];(refine this.step fun k=>?_);show sennitref20_lost.j0 (k+1) p ms (q:Int) (a:Int)=_;(rw[sennitref20_lost.j0,gw (by omega) (by omega)];rfl)
 cases q with
 | zero =>
  (refine(hj 0 rfl).same fun k=>?_);show sennitref20_lost.f k p ms 0=_;(rw[sennitref20_lost.f,if_neg (by decide)];rfl)
 | succ q =>
  (have hql:q < ms.length:=by omega);(have hg:ms.getD q (-1)=ms[q]:=by rw[List.getD_eq_getElem?_getD,List.getElem?_eq_getElem hql];rfl);(have ew:wrap64 (((q+1:Nat):Int) - 1)=(q:Int):=by rw[gw (by omega) (by omega)];omega)
  rcases hF.at_ q hql with h1|⟨a,h1,_,h3,_⟩
  (· (have hn:fromM ms (q+1)=none:=by rw[fromM,h1,if_neg (by decide)]);rw[segL_none hn];(refine Gives.pure fun k=>?_);show sennitref20_lost.f k p ms ((q+1:Nat):Int)=_;rw[sennitref20_lost.f,if_pos (by omega),ew,if_pos (by omega),if_pos (by omega),rdN hql,← hg,if_pos h1]);(· (have hn:fromM ms (q+1)=some (a+1):=by rw[fromM,h1,if_pos (by omega),Int.toNat_natCast]);(refine(hj (a+1) hn).same fun k=>?_);show sennitref20_lost.f k p ms ((q+1:Nat):Int)=_;rw[sennitref20_lost.f,if_pos (by omega),ew,if_pos (by omega),if_pos (by omega),rdN hql,← hg,if_neg (by omega),h1,gw1 (by omega)])
section
variable {result:List ByteArray} {ls:List (List ByteArray)}
theorem FewT.segs (h:FewT result ls) (q:Nat):(segsL result ls q).length≤6 ∧ ∀ l ∈ segsL result ls q,l.length≤20 ∧ ∀ s ∈ l,s.size≤100:=by
 refine⟨by rw[segsL_length];exact h.2.1,fun l hl=>?_⟩;obtain⟨p,hp,rfl⟩:=List.mem_map.1 hl;have h4:=h.2.2 p hp;have:=segL_length_le p (matchS result p) q;exact⟨by omega,fun s hs=>h4.2 s (segL_mem hs)⟩
theorem ref_ahead20 (h:FewT result ls) (q:Nat) (hq:q≤result.length):Gives (fun k=>sennitref20_ahead.f k ls (ls.map (matchS result)) (q:Int)) (segRows result ls q,0):=by
 have hl : ∀ (r i:Nat),i+r=ls.length→Gives (fun k=>sennitref20_ahead.l0 k ls (ls.map (matchS result)) (q:Int) (segsL result (ls.take i) q) (i:Int)) (segRows result ls q,0):=by
  intro r
  induction r with
  | zero =>
   intro i hi;have hs:=h.segs q;have:=ref_Coalesce (segsL result ls q) (few_small hs.1 hs.2);(rw[segsL_length] at this);(refine Gives.last this fun k hk=>?_);show sennitref20_ahead.l0 (k+1) ls _ (q:Int) _ (i:Int)=_;(rw[List.take_of_length_le (by omega),sennitref20_ahead.l0,if_neg (by omega),hk,Option.bind_some];rfl)
  | succ r ih =>
   intro i hi;(have hil:i < ls.length:=by omega);have e:rd_L8 ls (i:Int)=ls[i]:=getN hil
   have e2:rd_L13 (ls.map (matchS result)) (i:Int)=matchS result ls[i]:=by
    have:rd_L13 (ls.map (matchS result)) (i:Int)=(ls.map (matchS result))[i]'(by simpa using hil):=getN (by simpa using hil);rw[this,List.getElem_map]
   have hp:=h.2.2 ls[i] (List.getElem_mem _);have hr:=h.1.1;have hlost:=ref_lost20 (matchS_fits result ls[i]) (by omega) (by rw[matchS_length];omega) q (by rw[matchS_length];exact hq)
   have hs:segsL result (ls.take (i+1)) q=segsL result (ls.take i) q ++ [segL ls[i] (matchS result ls[i]) q]:=by
    (rw[← List.take_append_getElem hil,segsL,List.map_append];rfl)
   (have hlen:(segsL result (ls.take i) q).length≤6:=by rw[segsL_length,List.length_take];have:=h.2.1;omega);have:=ih (i+1) (by omega);(rw[hs] at this);(refine Gives.call hlost this fun k hk=>?_);show sennitref20_ahead.l0 (k+1) ls _ (q:Int) _ (i:Int)=_;have h6:=h.2.1;rw[sennitref20_ahead.l0,if_pos (by omega),if_pos (by omega),if_pos (by rw[List.length_map];omega),e,e2,hk,Option.bind_some,if_pos (by omega),gw1 (by omega)]
 (exact(hl ls.length 0 (by omega)).same fun k=>rfl)
theorem segRows_len (result:List ByteArray) (ls:List (List ByteArray)) (q:Nat):(segRows result ls q).length≤sumLen ls:=by
 rw[segRows,List.length_map];refine Nat.le_trans (rowsOf_le _) ?_;rw[segsL,sumLen,sumLen,List.map_map]
 induction ls with
 | nil=>simp
 | cons p t ih =>
  simp only[List.map_cons,List.sum_cons,Function.comp_apply];have:=segL_length_le p (matchS result p) q;have:=ih;(simp only[Function.comp_def] at this ⊢);omega
theorem tableRows_len (result:List ByteArray) (ls:List (List ByteArray)) : ∀ q,q≤result.length→(tableRows result ls q).length≤q * (sumLen ls+1)
 | 0,_=>by simp[tableRows]
 | q+1,h=>by
  have:=tableRows_len result ls q (by omega);have h2:=segRows_len result ls q;rw[tableRows_succ _ _ _ h,List.length_append,List.length_append,List.length_singleton,Nat.succ_mul];omega
theorem FewT.rows (h:FewT result ls) {q:Nat} (hq:q≤result.length):(tableRows result ls q).length≤2000:=by
 have h1:=tableRows_len result ls q hq;have h2:=h.sum;have h3:=h.1.1;have:q * (sumLen ls+1)≤16 * 97:=Nat.mul_le_mul (by omega) (by omega);omega
theorem FewT.all (h:FewT result ls):(tableAll result ls).length≤3000:=by
 rw[tableAll_eq,List.length_append];have:=h.rows (Nat.le_refl _);have:=segRows_len result ls result.length;have:=h.sum;omega
theorem ref_Table_l2 (h:FewT result ls) (q:Nat) (hq:q < result.length) (rows:List ApiRow) (hrows:rows.length≤3000) {R:List ApiRow × Int}
    (hR:Gives (fun k=>sennitref20_Table.l1 k result ls (ls.map (matchS result)) (rows ++ [⟨bs (marksU result ls q),result[q]⟩]) ((q+1:Nat):Int)) R) : ∀ (r i:Nat),i+r=ls.length →
    Gives (fun k=>sennitref20_Table.l2 k result ls (ls.map (matchS result)) rows (q:Int) (bs (marksU result (ls.take i) q)) (i:Int)) R:=by
 have h6:=h.2.1;have h16:=h.1.1;intro r
 induction r with
 | zero =>
  intro i hi;(refine hR.step fun k=>?_);show sennitref20_Table.l2 (k+1) result ls _ rows (q:Int) _ (i:Int)=_;rw[List.take_of_length_le (by omega),sennitref20_Table.l2,if_neg (by omega),if_pos (by omega),if_pos (by omega),if_pos (by omega),rdOfN hq,gw1 (by omega)]
 | succ r ih =>
  intro i hi;(have hil:i < ls.length:=by omega);(have hql:q < (matchS result ls[i]).length:=by rw[matchS_length];exact hq)
  have e2:rd_L13 (ls.map (matchS result)) (i:Int)=matchS result ls[i]:=by
   have:rd_L13 (ls.map (matchS result)) (i:Int)=(ls.map (matchS result))[i]'(by simpa using hil):=getN (by simpa using hil);rw[this,List.getElem_map]
  (have hg:(matchS result ls[i]).getD q 0=(matchS result ls[i])[q]:=by rw[List.getD_eq_getElem?_getD,List.getElem?_eq_getElem hql];rfl)
  have hs:marksU result (ls.take (i+1)) q=marksU result (ls.take i) q ++ [if 0≤(matchS result ls[i])[q] then 32 else 43]:=by
   (rw[← List.take_append_getElem hil,marksU,List.map_append,← hg];rfl)
  (have hz:(bs (marksU result (ls.take i) q)).size≤6:=by rw[bs_size,marksU,List.length_map,List.length_take];omega);have:=ih (i+1) (by omega);(rw[hs,← bs_append] at this);(refine this.step fun k=>?_);show sennitref20_Table.l2 (k+1) result ls _ rows (q:Int) _ (i:Int)=_;rw[sennitref20_Table.l2,if_pos (by omega),if_pos (by omega),if_pos (by rw[List.length_map];omega),if_pos (by omega),e2,if_pos (by omega),rdN hql,gw1 (by omega)]
  by_cases hm:0≤(matchS result ls[i])[q]
  (· rw[if_pos hm,if_pos (by omega)];(first|rfl|(rw[if_pos hm];rfl)));(· rw[if_neg hm,if_pos (by omega)];(first|rfl|(rw[if_neg hm];rfl)))
theorem ref_Table_l1 (h:FewT result ls) : ∀ (r q:Nat),q+r=result.length→Gives (fun k=>sennitref20_Table.l1 k result ls (ls.map (matchS result)) (tableRows result ls q) (q:Int)) (tableAll result ls,0):=by
 have h16:=h.1.1;have h96:=h.sum;intro r
 induction r with
 | zero =>
  intro q hq;(obtain rfl:q=result.length:=by omega);have ha:=ref_ahead20 h result.length (Nat.le_refl _);have h1:=h.rows (Nat.le_refl _);have h2:=segRows_len result ls result.length;(refine Gives.last ha fun k hk=>?_);show sennitref20_Table.l1 (k+1) result ls _ _ (result.length:Int)=_;rw[sennitref20_Table.l1,if_pos (by omega),hk,Option.bind_some,if_pos rfl,if_pos (by simp only;omega),Option.bind_some,if_pos rfl,tableAll_eq]
 | succ r ih =>
  intro q hq;(have hql:q < result.length:=by omega);have ha:=ref_ahead20 h q (by omega);have h1:=h.rows (q:=q) (by omega);have h2:=segRows_len result ls q;have hn:=ih (q+1) (by omega);(rw[tableRows_succ _ _ _ hql] at hn);have h3:=ref_Table_l2 h q hql (tableRows result ls q ++ segRows result ls q) (by rw[List.length_append];omega) hn ls.length 0 (by omega);(refine Gives.call ha h3 fun k hk=>?_);show sennitref20_Table.l1 (k+1) result ls _ _ (q:Int)=_;(rw[sennitref20_Table.l1,if_pos (by omega),hk,Option.bind_some,if_pos rfl,if_pos (by simp only;omega),Option.bind_some,if_neg (by omega)];rfl)
theorem ref_Table_l0 (h:FewT result ls) : ∀ (r i:Nat),i+r=ls.length→Gives (fun k=>sennitref20_Table.l0 k result ls (idsAll (result :: ls)) ((ls.take i).map (matchS result)) (i:Int)) (tableAll result ls,0):=by
 have h6:=h.2.1;have h16:=h.1.1;(have hlen:(idsAll (result :: ls)).length=ls.length+1:=by rw[idsAll_map,List.length_map,List.length_cons])
 have hget : ∀ (j:Nat) (hj:j < (result :: ls).length),rd_L13 (idsAll (result :: ls)) (j:Int)=((result :: ls)[j]).map (num (tabOf [] (result :: ls))):=fun j hj=>by
  (have hj':j < (idsAll (result :: ls)).length:=by rw[hlen];simpa using hj);have:rd_L13 (idsAll (result :: ls)) (j:Int)=(idsAll (result :: ls))[j]:=getN hj';rw[this];simp only[idsAll_map,List.getElem_map]
 intro r
 induction r with
 | zero =>
  intro i hi;have:=ref_Table_l1 h result.length 0 (by omega);(refine this.step fun k=>?_);show sennitref20_Table.l0 (k+1) result ls _ _ (i:Int)=_;(rw[List.take_of_length_le (by omega),sennitref20_Table.l0,if_neg (by omega)];rfl)
 | succ r ih =>
  intro i hi;(have hil:i < ls.length:=by omega);have g0:=hget 0 (by simp);have g1:=hget (i+1) (by simp;omega);have hp:=h.2.2 ls[i] (List.getElem_mem _);have hm:=match_gives (a:=result.map (num (tabOf [] (result :: ls)))) (b:=ls[i].map (num (tabOf [] (result :: ls)))) (by rw[List.length_map];omega) (by rw[List.length_map];omega);(rw[matchS_num (fun x hx=>tabAll (List.mem_cons_self ..) hx)] at hm)
  have hs:(ls.take (i+1)).map (matchS result)=(ls.take i).map (matchS result) ++ [matchS result ls[i]]:=by
   (rw[← List.take_append_getElem hil,List.map_append];rfl)
  have:=ih (i+1) (by omega);(rw[hs] at this);(refine Gives.call hm this fun k hk=>?_);show sennitref20_Table.l0 (k+1) result ls _ _ (i:Int)=_;have e0:rd_L13 (idsAll (result :: ls)) 0=result.map (num (tabOf [] (result :: ls))):=g0;have e1:rd_L13 (idsAll (result :: ls)) ((i+1:Nat):Int)=ls[i].map (num (tabOf [] (result :: ls))):=g1;rw[sennitref20_Table.l0,if_pos (by omega),if_pos (by rw[hlen];omega),gw1 (by omega),if_pos (by omega),if_pos (by rw[hlen];omega),e0,e1,hk,Option.bind_some,if_pos (by rw[List.length_map,List.length_take];omega)]
theorem ref_Table20 (h:FewT result ls):Gives (fun k=>sennitref20_Table.f k result ls) (tableF result ls):=by
 have hw:=ref_wrong20 h;have h6:=h.2.1;have h16:=h.1.1
 by_cases h0:wrongF mayL (result :: ls)=0
 ·
  have hall:=ref_all (result :: ls) (by simp;omega) (fun l hl=>by
   rcases List.mem_cons.1 hl with rfl|hl
   (· omega)
   ·
    have:=(h.2.2 l hl).1;omega) (by
   have:=h.sum;(simp only[sumLen] at this)
   simp only[List.map_cons,List.sum_cons];omega)
  have ht:=ref_Table_l0 h ls.length 0 (by omega);rw[tableF,if_neg (by simpa using h0)];(refine Gives.call0 hw (Gives.call0 hall ht (f:=fun k=>(sennitref02_All.f k (result :: ls)).bind fun t129=>(sennitref20_Table.l0 k result ls t129 ([]:List (List Int)) 0)) fun k hk=>?_) fun k hk=>?_);(· show Option.bind _ _=_;(rw[hk,Option.bind_some];rfl));(· show sennitref20_Table.f k result ls=_;(rw[sennitref20_Table.f,hk,Option.bind_some,if_pos h0,Option.bind_some,if_pos (by simp;omega)];rfl))
 (· rw[tableF,if_pos h0];(refine Gives.last0 hw fun k hk=>?_);show sennitref20_Table.f k result ls=_;rw[sennitref20_Table.f,hk,Option.bind_some,if_neg h0])
end
end TabTells_sec
section TabCols_sec
open Go.RowKit Go.Proofs.YthcnfflhejogfaaDoorW.PrintWords Go.Proofs.YthcnfflhejogfaaDoorW.PrintLast Go.Proofs.YthcnfflhejogfaaDoorW.PrintMore
theorem byte32 (c:UInt8):((c.toNat:Int)=32)↔c=32:=by
 constructor;(· intro h;(have:c.toNat=32:=by omega);exact UInt8.toNat_inj.1 this);(· (rintro rfl;rfl))
theorem ofB_nat (c:Nat) (s:ByteArray):ofB (c:Int) s=((s.data.toList[c]? == some 45) || ((s.data.toList[c]? == some 32) && !lostB s)):=by
 have hs:=sizeLen s;rw[ofB,decide_eq_true (show (0:Int)≤(c:Int) by omega),Bool.true_and]
 by_cases h:c < s.size
 ·
  (have hc:c < s.data.toList.length:=by omega);rw[decide_eq_true (show (c:Int) < (s.size:Int) by omega),Bool.true_and,btN h,List.getElem?_eq_getElem hc]
  have e1:decide (((s.data.toList[c].toNat:Nat):Int)=45)=(some s.data.toList[c] == some 45):=by
   (rw[Bool.eq_iff_iff,decide_eq_true_eq,byte45];simp)
  have e2:decide (((s.data.toList[c].toNat:Nat):Int)=32)=(some s.data.toList[c] == some 32):=by
   (rw[Bool.eq_iff_iff,decide_eq_true_eq,byte32];simp)
  rw[e1,e2]
 (· (rw[decide_eq_false (show ¬ (c:Int) < (s.size:Int) by omega),List.getElem?_eq_none (by omega)];rfl))
def colF (c:Nat) (R:List ApiRow):List ByteArray:=(R.filter (fun x=>ofB (c:Int) x.f0)).map (·.f1)
def resF (R:List ApiRow):List ByteArray:=(R.filter (fun x => !lostB x.f0)).map (·.f1)
theorem colF_append (c:Nat) (a b:List ApiRow):colF c (a ++ b)=colF c a ++ colF c b:=by simp[colF]
theorem resF_append (a b:List ApiRow):resF (a ++ b)=resF a ++ resF b:=by simp[resF]
section
variable {result:List ByteArray} {ls:List (List ByteArray)}
theorem seg_row (hn:ls.length≤16) (q:Nat) : ∀ x ∈ segRows result ls q,x.f0.size=ls.length∧(∀ c ∈ x.f0.data.toList,c=45∨c=32)∧45 ∈ x.f0.data.toList:=by
 have h:=rowsOf_cols (segsL result ls q) (by rw[segsL_length];exact hn);(rw[segsL_length] at h);exact rowOut_ok hn h
theorem seg_lost (hn:ls.length≤16) (q:Nat) : ∀ x ∈ segRows result ls q,lostB x.f0=true:=fun x hx=>by
  rw[lostB_mem];exact decide_eq_true (seg_row hn q x hx).2.2
theorem line_mem (q:Nat) : ∀ c ∈ marksU result ls q,c=32∨c=43:=by
 intro c hc;obtain⟨p,_,rfl⟩:=List.mem_map.1 hc;split;(· exact .inl rfl);(· exact .inr rfl)
theorem line_lost (q:Nat):lostB (bs (marksU result ls q))=false:=by
 rw[lostB_mem];(refine decide_eq_false fun h=>?_)
 rcases line_mem q 45 (by simpa [bs] using h) with h|h <;> cases h
theorem colF_seg (hn:ls.length≤16) {c:Nat} (hc:c < ls.length) (q:Nat):colF c (segRows result ls q)=segL ls[c] (matchS result ls[c]) q:=by
 have h:=rowsOf_cols (segsL result ls q) (by rw[segsL_length];exact hn);(rw[segsL_length] at h);have h1:=column_colT hn hc _ h;(rw[rowsOf_colT _ (by rw[segsL_length];exact hn) c (by rw[segsL_length];exact hc)] at h1);(have hg:(segsL result ls q).getD c []=segL ls[c] (matchS result ls[c]) q:=by simp[segsL,hc]);(rw[hg] at h1);rw[← h1,colF]
 congr 1
 (refine List.filter_congr fun x hx=>?_);(rw[ofB_nat,seg_lost hn q x hx];simp)
theorem resF_seg (hn:ls.length≤16) (q:Nat):resF (segRows result ls q)=[]:=by
 (rw[resF,List.filter_eq_nil_iff.2 (fun x hx=>by rw[seg_lost hn q x hx];decide)];rfl)
theorem resF_line (q:Nat) (s:ByteArray):resF [⟨bs (marksU result ls q),s⟩]=[s]:=by
 (rw[resF,List.filter_cons_of_pos (by show (!lostB (bs (marksU result ls q)))=true;rw[line_lost];rfl)];rfl)
theorem colF_line {c:Nat} (hc:c < ls.length) (q:Nat) (s:ByteArray):colF c [⟨bs (marksU result ls q),s⟩]=if 0≤(matchS result ls[c]).getD q 0 then [s] else []:=by
 have hg:(bs (marksU result ls q)).data.toList[c]? = some (if 0≤(matchS result ls[c]).getD q 0 then 32 else 43):=by
  show (marksU result ls q).toArray.toList[c]? = _;(rw[marksU,List.toList_toArray,List.getElem?_map,List.getElem?_eq_getElem hc];rfl)
 have ho:ofB (c:Int) (bs (marksU result ls q))=decide (0≤(matchS result ls[c]).getD q 0):=by
  rw[ofB_nat,hg,line_lost];split;(· (rename_i h;rw[decide_eq_true h];rfl));(· (rename_i h;rw[decide_eq_false h];rfl))
 by_cases h:0≤(matchS result ls[c]).getD q 0
 (· (rw[if_pos h,colF,List.filter_cons_of_pos (by show ofB (c:Int) (bs (marksU result ls q))=true;rw[ho];exact decide_eq_true h)];rfl));(· (rw[if_neg h,colF,List.filter_cons_of_neg (by show ¬ ofB (c:Int) (bs (marksU result ls q))=true;rw[ho];simpa using h)];rfl))
def posM (ms:List Int) (L q:Nat):Nat:=match fromM ms q with|some a=>a|none=>nextM (ms.drop q) L
theorem pos_seg {p ss:List ByteArray} {ms:List Int} (hF:Fits p ms ss 0) (q:Nat):p.take (posM ms p.length q) ++ segL p ms q=p.take (nextM (ms.drop q) p.length):=by
 rw[posM,segL]
 cases h:fromM ms q with
 | none=>simp
 | some a =>
  have:=hF.from_le h;show p.take a ++ (p.take (nextM (ms.drop q) p.length)).drop a=_;(have e:p.take a=(p.take (nextM (ms.drop q) p.length)).take a:=by rw[List.take_take,Nat.min_eq_left this]);rw[e,List.take_append_drop]
theorem pos_line {p ss:List ByteArray} {ms:List Int} (hF:Fits p ms ss 0) {q:Nat} (hq:q < ms.length) (hs:q < ss.length):p.take (nextM (ms.drop q) p.length) ++ (if 0≤ms.getD q 0 then [ss[q]] else [])=p.take (posM ms p.length (q+1)):=by
 (have hg:ms.getD q (-1)=ms[q]:=by rw[List.getD_eq_getElem?_getD,List.getElem?_eq_getElem hq];rfl);(have hg0:ms.getD q 0=ms[q]:=by rw[List.getD_eq_getElem?_getD,List.getElem?_eq_getElem hq];rfl);have hd:ms.drop q=ms[q] :: ms.drop (q+1):=dropCons hq
 rcases hF.at_ q hq with h|⟨k,h,h1,h2,h3⟩
 (· (have hn:fromM ms (q+1)=none:=by rw[fromM,h,if_neg (by decide)]);(rw[hg] at h);rw[hg0,h,if_neg (by decide),List.append_nil,posM,hn,hd,h,nextM,if_neg (by decide)]);(· (have hn:fromM ms (q+1)=some (k+1):=by rw[fromM,h,if_pos (by omega),Int.toNat_natCast]);(rw[hg] at h);rw[hg0,h,if_pos (by omega),posM,hn,hd,h,nextM,if_pos (by omega),Int.toNat_natCast];(rw[List.getElem?_eq_getElem hs,List.getElem?_eq_getElem h2] at h1);rw[← Option.some.inj h1];exact List.take_append_getElem h2)
theorem colF_rows (hn:ls.length≤16) {c:Nat} (hc:c < ls.length) : ∀ q,q≤result.length→colF c (tableRows result ls q)=ls[c].take (posM (matchS result ls[c]) ls[c].length q)
 | 0,_=>by
  have:posM (matchS result ls[c]) ls[c].length 0=0:=rfl;(rw[this,List.take_zero];rfl)
 | q+1,h=>by
  rw[tableRows_succ _ _ _ h,colF_append,colF_append,colF_rows hn hc q (by omega),colF_seg hn hc,colF_line hc,pos_seg (matchS_fits result ls[c])];exact pos_line (matchS_fits result ls[c]) (by rw[matchS_length];exact h) h
theorem colF_all (hn:ls.length≤16) {c:Nat} (hc:c < ls.length):colF c (tableAll result ls)=ls[c]:=by
 rw[tableAll_eq,colF_append,colF_rows hn hc _ (Nat.le_refl _),colF_seg hn hc,pos_seg (matchS_fits result ls[c]),List.drop_of_length_le (by rw[matchS_length];exact Nat.le_refl _)];exact List.take_length
theorem resF_rows (hn:ls.length≤16) : ∀ q,q≤result.length→resF (tableRows result ls q)=result.take q
 | 0,_=>rfl
 | q+1,h=>by
  rw[tableRows_succ _ _ _ h,resF_append,resF_append,resF_rows hn q (by omega),resF_seg hn,resF_line,List.append_nil];exact List.take_append_getElem h
theorem resF_all (hn:ls.length≤16):resF (tableAll result ls)=result:=by
 rw[tableAll_eq,resF_append,resF_rows hn _ (Nat.le_refl _),resF_seg hn,List.append_nil,List.take_length]
theorem ref_May20 (result:List ByteArray) (ls:List (List ByteArray)) : ∃ b,Gives (fun k=>sennitref20_May.f k result ls) b∧(b=true→FewT result ls∧wrongF mayL (result :: ls)=0):=by
 obtain⟨b,h1,h2⟩:=ref_Few20 result ls
 cases b with
 | false =>
  refine⟨false,Gives.last0 h1 fun k hk=>?_,fun h=>by cases h⟩;show sennitref20_May.f k result ls=_;rw[sennitref20_May.f,hk,Option.bind_some,if_neg (by decide)]
 | true =>
  have hF:=h2 rfl;refine⟨wrongF mayL (result :: ls) == 0,Gives.call0 h1 (Gives.last0 (ref_wrong20 hF) (f:=fun k=>(sennitref20_wrong.f k result ls).bind fun t=>some (t == 0)) fun k hk=>?_) fun k hk=>?_,fun h=>⟨hF,by simpa using h⟩⟩;(· show Option.bind _ _=_;rw[hk,Option.bind_some]);(· show sennitref20_May.f k result ls=_;rw[sennitref20_May.f,hk,Option.bind_some,if_pos rfl])
end
end TabCols_sec
variable {result:List ByteArray} {ls:List (List ByteArray)}
theorem mark_two (m:Int):markB m=32∨markB m=45:=by
 (unfold markB;split);(· exact .inl rfl);(· exact .inr rfl)
def ShapeT (n:Nat) (x:ApiRow):Prop:=x.f0.size=n∧((∀ c ∈ x.f0.data.toList,c=32∨c=45)∨(∀ c ∈ x.f0.data.toList,c=32∨c=43))
theorem seg_shape (hn:ls.length≤16) (q:Nat) : ∀ x ∈ segRows result ls q,ShapeT ls.length x:=fun x hx=>by
  rw[segRows,List.mem_map] at hx
  obtain⟨y,hy,rfl⟩:=hx
  have hc:=rowsOf_cols (segsL result ls q) (by rw[segsL_length];exact hn) y hy
  refine⟨by rw[rowOut_f0,bs_size,List.length_take,List.length_map,hc.1];omega, .inl fun c hc=>?_⟩
  rw[rowOut_f0] at hc
  have hc:c ∈ (y.1.map markB).take ls.length:=by simpa [bs] using hc
  obtain⟨m,_,rfl⟩:=List.mem_map.1 (List.mem_of_mem_take hc)
  exact mark_two m
theorem line_shape (q:Nat) (s:ByteArray):ShapeT ls.length (⟨bs (marksU result ls q),s⟩:ApiRow):=by
 refine⟨by show (bs (marksU result ls q)).size=_;rw[bs_size,marksU,List.length_map], .inr fun c hc=>line_mem q c (by simpa [bs] using hc)⟩
theorem rows_shape (hn:ls.length≤16) : ∀ q,q≤result.length → ∀ x ∈ tableRows result ls q,ShapeT ls.length x
 | 0,_,x,hx=>by cases hx
 | q+1,h,x,hx=>by
  (rw[tableRows_succ _ _ _ (by omega),List.mem_append,List.mem_append,List.mem_singleton] at hx)
  rcases hx with (hx|hx)|rfl
  (· exact rows_shape hn q (by omega) x hx);(· exact seg_shape hn q x hx);(· exact line_shape q _)
theorem all_shape (hn:ls.length≤16) : ∀ x ∈ tableAll result ls,ShapeT ls.length x:=fun x hx=>by
  rw[tableAll_eq,List.mem_append] at hx
  rcases hx with hx|hx
  · exact rows_shape hn _ (Nat.le_refl _) x hx
  · exact seg_shape hn _ x hx
theorem all_text (hn:ls.length≤16) : ∀ x ∈ tableAll result ls,∃ l ∈ result :: ls,x.f1 ∈ l:=fun x hx=>by
  cases hb:lostB x.f0 with
  | false =>
    refine⟨result,List.mem_cons_self,?_⟩
    have:x.f1 ∈ resF (tableAll result ls):=List.mem_map.2 ⟨x,List.mem_filter.2 ⟨hx,by rw[hb];rfl⟩,rfl⟩
    rwa [resF_all hn] at this
  | true =>
    rw[X.lostB_mem,decide_eq_true_eq] at hb
    obtain⟨c,hc,e⟩:=List.mem_iff_getElem.1 hb
    have hsz:x.f0.data.toList.length=x.f0.size:=by simp
    have hsh:=(all_shape hn x hx).1
    have hcl:c < ls.length:=by omega
    refine⟨ls[c],List.mem_cons_of_mem _ (List.getElem_mem hcl),?_⟩
    have hbt:bt x.f0 (c:Int)=45:=(X.btIs (by omega) 45).2 e
    have:x.f1 ∈ colF c (tableAll result ls):=List.mem_map.2 ⟨x,List.mem_filter.2 ⟨hx,by
      rw[ofB,decide_eq_true (show (0:Int)≤(c:Int) by omega),decide_eq_true (show (c:Int) < (x.f0.size:Int) by omega),hbt];rfl⟩,rfl⟩
    rwa [colF_all hn hcl] at this
theorem mayL_one : ∀ {l:List ByteArray},mayL l=true → ∀ {s:ByteArray},s ∈ l→mayL [s]=true
 | a :: l,h,s,hs=>by
  (rw[mayL,Bool.and_eq_true] at h)
  rcases List.mem_cons.1 hs with rfl|hs
  ·
   rw[mayL,mayL,Bool.and_true];have h1:=h.1
   revert h1
   (cases lineClosed s <;> cases lineOpen s <;> simp)
  (· exact mayL_one h.2 hs)
theorem wrong_no (hw:wrongF mayL (result :: ls)=0):1≤ls.length∧ls.length≤16 ∧ ∀ l ∈ result :: ls,mayL l=true:=by
 (rw[wrongF] at hw);(split at hw);(· cases hw)
 ·
  rename_i h1;(split at hw);(· cases hw)
  ·
   rename_i h2;(rw[List.length_cons] at h1);refine⟨by omega,by omega,fun l hl=>?_⟩
   cases e:mayL l with
   | true=>rfl
   | false=>exact(h2 (List.any_eq_true.2 ⟨l,hl,by rw[e];rfl⟩)).elim
theorem shape_no {n:Nat} {x:ApiRow} (h:ShapeT n x):x.f0.data.toList.all okC=true∧(hasC x.f0 43 && hasC x.f0 45)=false:=by
 obtain⟨h1,h2⟩:=h;constructor
 ·
  rw[List.all_eq_true];intro c hc
  rcases h2 with h2|h2 <;> rcases h2 c hc with rfl|rfl <;> decide
 ·
  rw[Bool.and_eq_false_iff,hasC,hasC,List.any_eq_false,List.any_eq_false]
  rcases h2 with h2|h2
  (· (left;intro c hc;rcases h2 c hc with rfl|rfl <;> decide));(· (right;intro c hc;rcases h2 c hc with rfl|rfl <;> decide))
theorem rd0_all (hn:ls.length≤16) {x:ApiRow} (hx:x ∈ tableAll result ls):(rd_T57 (tableAll result ls) 0).f0.size=ls.length:=by
 cases e:tableAll result ls with
 | nil=>rw[e] at hx;cases hx
 | cons a l=>exact(all_shape hn a (by rw[e];exact List.mem_cons_self)).1
theorem all_may (hw:wrongF mayL (result :: ls)=0):mayB (tableAll result ls)=true:=by
 obtain⟨h1,h2,h3⟩:=wrong_no hw;rw[mayB,List.all_eq_true];intro x hx;have hs:=all_shape h2 x hx;obtain⟨l,hl,ht⟩:=all_text h2 x hx;(rw[rd0_all h2 hx,decide_eq_true ⟨h1,h2⟩,Bool.true_and,mayRow,(shape_no hs).1,(shape_no hs).2,decide_eq_true hs.1,mayL_one (h3 l hl) ht];rfl)
theorem FewT.text (h:FewT result ls) : ∀ l ∈ result :: ls,l.length≤16 ∧ ∀ s ∈ l,s.size≤100:=fun l hl=>by
  rcases List.mem_cons.1 hl with rfl|hl
  · exact h.1
  · exact h.2.2 l hl
theorem all_few (h:FewT result ls):(tableAll result ls).length≤3000 ∧ ∀ x ∈ tableAll result ls,x.f0.size≤6∧x.f1.size≤100:=by
 refine⟨h.all,fun x hx=>?_⟩;(have hn:ls.length≤16:=by have:=h.2.1;omega);obtain⟨l,hl,ht⟩:=all_text hn x hx;exact⟨by rw[(all_shape hn x hx).1];exact h.2.1,(h.text l hl).2 _ ht⟩
theorem all_low (h:FewT result ls):lowB (tableAll result ls)=true:=by
 obtain⟨h1,h2⟩:=all_few h;exact lowB_mk (by omega) (fun x hx=>by have:=(h2 x hx).1;omega) (fun x hx=>by have:=(h2 x hx).2;omega)
theorem all_kept (hn:ls.length≤16):((tableAll result ls).filter (fun x => !lostB x.f0)).length=result.length:=by
 have:=congrArg List.length (resF_all (result:=result) hn)
 rwa [resF,List.length_map] at this
end Go.Proofs.YthcnfflhejogfaaDoor.X.T20
namespace Go.Proofs.YthcnfflhejogfaaDoor.X
open Go.RowKit Go.Proofs.YthcnfflhejogfaaDoorW.PrintWords Go.Proofs.YthcnfflhejogfaaDoorW.PrintLast Go.Proofs.YthcnfflhejogfaaDoorW.PrintMore
theorem sh_iff {rows:List RowH} {x j:Nat} {dense:Bool}:HkP.MarkAt id (shownC rows x dense) j↔j < rows.length ∧ ∃ f t,HkP.IsGroup mrkB rows f t∧keepB rows dense f t=true∧HkP.Inside mrkB rows x f t j:=by
 constructor;(· rintro⟨h1,h2⟩;(have hj:j < rows.length:=by rw[shownC_len] at h1;exact h1);refine⟨hj,(HkP.shownR_iff mrkB (keepB rows dense) hj).1 ?_⟩;rw[← shownC_at (x:=x) (dense:=dense) hj,List.getD_eq_getElem?_getD,List.getElem?_eq_getElem h1];exact h2);(· rintro⟨hj,h⟩;(have h1:j < (shownC rows x dense).length:=by rw[shownC_len];exact hj);refine⟨h1,?_⟩;have:=(HkP.shownR_iff mrkB (keepB rows dense) hj).2 h;(rw[← shownC_at (x:=x) (dense:=dense) hj,List.getD_eq_getElem?_getD,List.getElem?_eq_getElem h1] at this);exact this)
theorem blank_row {n:Nat} {x:RowH} (hs:x.f0.size=n) (hm:mrkB x=false):lostB x.f0=false ∧ ∀ i:Nat,i < n→ofB (i:Int) x.f0=true:=by
 have hall : ∀ c ∈ x.f0.data.toList,c=32:=fun c hc=>by
  have h:=List.any_eq_false.1 hm c hc;simpa using h
 have hl:lostB x.f0=false:=by
  rw[lostB_mem,decide_eq_false_iff_not];intro h;have:=hall 45 h;cases this
 refine⟨hl,fun i hi=>?_⟩;have hb:bt x.f0 (i:Int)=32:=(btIs32 (by omega)).2 (hall _ (List.getElem_mem _));(rw[ofB,decide_eq_true (show (0:Int)≤(i:Int) by omega),decide_eq_true (show (i:Int) < (x.f0.size:Int) by omega),hb,hl];rfl)
theorem wrapSmall2 {i:Nat} (h:i≤1000000):wrap64 ((i:Int)+1)=(i:Int)+1:=gw (by omega) (by omega)
theorem gap_few {rows:List RowH} {a b:Nat} (hab:a≤b) (hb:b≤rows.length) (hno : ∀ j,a≤j→j < b → ¬ HkP.MarkAt mrkB rows j):b - a≤(rows.filter (fun x => !mrkB x)).length:=by
 have h1:=filter_len_cut hab (rows:=rows) (fun x => !mrkB x)
 have h2:((cutR rows a b).filter (fun x => !mrkB x)).length=b - a:=by
  rw[List.filter_eq_self.2 (fun x hx=>?_),cutR_len hb];obtain⟨k,hk,rfl⟩:=List.mem_iff_getElem.1 hx;have hk2:=hk;(rw[cutR_len hb] at hk2);(have e:(cutR rows a b)[k]=rows[a+k]'(by omega):=by simp only[cutR,List.getElem_drop,List.getElem_take]);have h3:=(HkP.mk_no mrkB).2 (hno (a+k) (by omega) (by omega));(rw[HkP.mk_at _ (by omega)] at h3);(rw[e,h3];rfl)
 have h3:((rows.take b).filter (fun x => !mrkB x)).length≤(rows.filter (fun x => !mrkB x)).length:=by
  have:=filter_len_cut hb (rows:=rows) (fun x => !mrkB x);(rw[List.take_length] at this);omega
 omega
theorem all_shown {rows:List RowH} {x p:Nat} (hx:(rows.filter (fun x => !mrkB x)).length≤x) (hp:HkP.MarkAt mrkB rows p) {i:Nat} (hi:i < rows.length):HkP.shownR mrkB (keepB rows false) rows x i=true:=by
 (have hk : ∀ f t,keepB rows false f t=true:=fun f t=>rfl);refine(HkP.shownR_iff mrkB (keepB rows false) hi).2 ?_
 by_cases hm:HkP.MarkAt mrkB rows i
 (· obtain⟨h1,h2,h3⟩:=HkP.isGroup_at mrkB hm;exact⟨_,_,h1,hk _ _, .inl ⟨h2,h3⟩⟩)
 ·
  obtain⟨a1,a2,a3,a4⟩:=HkP.nextM_spec mrkB rows i (by omega)
  by_cases hq:HkP.nextM mrkB rows i < rows.length
  ·
   obtain⟨q,hqe⟩ : ∃ q,HkP.nextM mrkB rows i=q:=⟨_,rfl⟩;(rw[hqe] at a1 a2 a3 a4 hq);have hqm:=a4 hq
   have hiq:i < q:=by
    rcases Nat.lt_or_ge i q with e|e
    (· exact e);(· (have:i=q:=by omega);(rw[this] at hm);exact(hm hqm).elim)
   obtain⟨h1,h2,h3⟩:=HkP.isGroup_at mrkB hqm;obtain⟨f,hf⟩ : ∃ f,HkP.groupBegin mrkB rows q=f:=⟨_,rfl⟩;obtain⟨t,ht⟩ : ∃ t,HkP.groupEnd mrkB rows q=t:=⟨_,rfl⟩;(rw[hf] at h1 h2);(rw[ht] at h1 h3)
   have hif:i < f:=by
    rcases Nat.lt_or_ge i f with e|e
    (· exact e);(· exact(hm (h1.2.2.1 i e (by omega))).elim)
   have hfq:f=q:=by
    rcases Nat.lt_or_ge f q with e|e
    (· exact(a3 f (by omega) e (h1.2.2.1 f (Nat.le_refl _) h1.1)).elim);(· omega)
   have:=gap_few (rows:=rows) (a:=i) (b:=f) (by omega) (by omega) (fun j b1 b2=>a3 j b1 (by omega));exact⟨f,t,h1,hk _ _, .inr (.inl ⟨hif,by omega,fun j b1 b2=>a3 j b1 (by omega)⟩)⟩
  ·
   (have hno : ∀ j,i≤j → ¬ HkP.MarkAt mrkB rows j:=fun j hj hmj=>a3 j hj (by have:=hmj.1;omega) hmj);obtain⟨c1,c2,c3⟩:=HkP.lastM_spec mrkB rows i;obtain⟨s,hs⟩ : ∃ s,HkP.lastM mrkB rows i=s:=⟨_,rfl⟩;(rw[hs] at c1 c2 c3)
   have hpi:p < i:=by
    rcases Nat.lt_or_ge p i with e|e
    (· exact e);(· exact(hno p e hp).elim)
   have hs0:0 < s:=by
    rcases Nat.eq_zero_or_pos s with e|e
    (· exact(c3 p (by omega) hpi hp).elim);(· exact e)
   have hm1:=c2 (s - 1) (by omega);obtain⟨h1,h2,h3⟩:=HkP.isGroup_at mrkB hm1;obtain⟨f,hf⟩ : ∃ f,HkP.groupBegin mrkB rows (s - 1)=f:=⟨_,rfl⟩;obtain⟨t,ht⟩ : ∃ t,HkP.groupEnd mrkB rows (s - 1)=t:=⟨_,rfl⟩;(rw[hf] at h1 h2);(rw[ht] at h1 h3)
   have hts:t=s:=by
    rcases Nat.lt_or_ge s t with e|e
    ·
     have hms:=h1.2.2.1 s (by omega) e
     rcases Nat.lt_or_ge s i with e2|e2
     (· exact(c3 s (Nat.le_refl _) e2 hms).elim);(· exact(hno s e2 hms).elim)
    (· omega)
   have hnn : ∀ j,t≤j→j < i+1 → ¬ HkP.MarkAt mrkB rows j:=fun j b1 b2=>by
    rcases Nat.lt_or_ge j i with e|e
    (· exact c3 j (by omega) e);(· exact hno j e)
   have:=gap_few (rows:=rows) (a:=t) (b:=i+1) (by omega) (by omega) hnn;exact⟨f,t,h1,hk _ _, .inr (.inr ⟨by omega,hi,by omega,fun j b1 b2=>hnn j b1 (by omega)⟩)⟩
theorem shown_all {rows:List RowH} {x p:Nat} (hx:(rows.filter (fun x => !mrkB x)).length≤x) (hp:HkP.MarkAt mrkB rows p):shownC rows x false=List.replicate rows.length true:=by
 (refine List.ext_getElem (by rw[shownC_len,List.length_replicate]) fun i h1 h2=>?_);(rw[shownC_len] at h1);have e:=shownC_at (rows:=rows) (x:=x) (dense:=false) h1;(rw[all_shown hx hp h1,List.getD_eq_getElem?_getD,List.getElem?_eq_getElem (by rw[shownC_len];exact h1),Option.getD_some] at e);rw[e,List.getElem_replicate]
theorem shown_no {rows:List RowH} {x:Nat} (hno : ∀ p,¬ HkP.MarkAt mrkB rows p):cutsH rows (shownC rows x false)=[]:=by
 rw[cutsH,List.map_eq_nil_iff,List.eq_nil_iff_forall_not_mem];rintro⟨f,t⟩ hp;have hg:=((HkP.mem_groupsGo id _ 0 (by omega) (fun j hj=>by omega)).1 hp).2;obtain⟨hj,gf,gt,hg2,_,_⟩:=sh_iff.1 (hg.2.2.1 f (Nat.le_refl _) hg.1);exact hno gf (hg2.2.2.1 gf (Nat.le_refl _) hg2.1)
theorem cuts_all {rows:List RowH} (h:0 < rows.length):cutsH rows (List.replicate rows.length true)=[hunkOf rows 0 rows.length]:=by
 have hge:HkP.groupEnd id (List.replicate rows.length true) 0=rows.length:=by
  rw[HkP.groupEnd,List.drop_zero,List.takeWhile_replicate,if_pos (show id true=true from rfl),List.length_replicate,Nat.zero_add]
 have hnil : ∀ r,HkP.groupsGo id (List.replicate rows.length true) r rows.length=[]:=fun r=>by
  cases r with
  | zero=>rfl
  | succ r=>rw[HkP.groupsGo,dif_neg (by rw[List.length_replicate];omega)]
 (rw[cutsH,HkP.groupsGo,dif_pos (by rw[List.length_replicate];exact h),if_pos (by rw[List.getElem_replicate];rfl),hge,hnil];rfl)
theorem cutR_all (rows:List RowH):cutR rows 0 rows.length=rows:=by rw[cutR,List.take_length,List.drop_zero]
theorem blank_few (rows:List RowH):(rows.filter (fun x => !mrkB x)).length≤(rows.filter (fun x => !lostB x.f0)).length:=by
 induction rows with
 | nil=>exact Nat.le_refl _
 | cons x l ih =>
  rw[List.filter_cons,List.filter_cons]
  cases hm:mrkB x with
  | true =>
   rw[if_neg (by decide)];split;(· (rw[List.length_cons];omega));(· exact ih)
  | false =>
   (rw[if_pos (show (!false)=true from rfl),(blank_row (n:=x.f0.size) rfl hm).1,if_pos (show (!false)=true from rfl),List.length_cons,List.length_cons];omega)
theorem any_take {rows:List RowH} {i:Nat} (h:i < rows.length):(rows.take (i+1)).any mrkB=((rows.take i).any mrkB || mrkB rows[i]):=by
 (rw[← List.take_append_getElem h,List.any_append];simp)
theorem none_l0 {result:List ByteArray} {rows:List RowH} {h:List Hunk48} (hl:rows.length≤3000) (hz : ∀ x ∈ rows,x.f0.size≤1000)
    (hh:(rows.any mrkB=true∧h.length=1∧(rd_T48 h 0).f2=rows∧(rd_T48 h 0).f1.f1=(result.length:Int))∨(rows.any mrkB=false∧h=[])) :
    ∀ (r i:Nat),i+r=rows.length→Gives (fun k=>sennitlaw21_HunkNone.l0 k result true rows h 0 [] 1 ((rows.take i).any mrkB) (i:Int)) true:=by
 intro r
 induction r with
 | zero =>
  intro i hi;(obtain rfl:i=rows.length:=by omega);rw[List.take_length]
  rcases hh with ⟨a1,a2,a3,a4⟩|⟨a1,rfl⟩
  (· have hs:=ref_Same19 rows rows (by omega);(rw[decide_eq_true rfl] at hs);rw[a1];(refine Gives.last hs fun k hk=>?_);show sennitlaw21_HunkNone.l0 (k+1) _ _ _ _ _ _ _ _ _=_;rw[sennitlaw21_HunkNone.l0,if_neg (by omega),if_pos (by omega),if_pos (by omega),a3,hk,Option.bind_some,if_pos rfl,if_pos rfl,if_pos rfl,if_pos rfl,if_pos (by rfl),if_pos rfl,if_pos a4])
  ·
   rw[a1]
   exact Gives.of fun k=>by
    show sennitlaw21_HunkNone.l0 (k+1) _ _ _ _ _ _ _ _ _=_;(rw[sennitlaw21_HunkNone.l0,if_neg (by omega),if_neg (by decide),if_pos rfl,if_pos rfl,if_pos rfl,if_pos (show ((([]:List Hunk48).length:Int))=0 from rfl),if_neg (by decide)];rfl)
 | succ r ih =>
  intro i hi;(have hlt:i < rows.length:=by omega);have ih:=ih (i+1) (by omega);(rw[any_take hlt] at ih);(have hw:wrap64 ((i:Int)+1)=((i+1:Nat):Int):=by rw[wrapSmall2 (by omega)];omega)
  cases hs:(rows.take i).any mrkB with
  | true =>
   (rw[hs,Bool.true_or] at ih);(refine Gives.step ih fun k=>?_);show sennitlaw21_HunkNone.l0 (k+1) _ _ _ _ _ _ _ _ _=_;rw[sennitlaw21_HunkNone.l0,if_pos (by omega),if_pos rfl,hw]
  | false =>
   (rw[hs,Bool.false_or] at ih);have hm:=ref_Marked rows[i].f0 rows[i].f1 (by have:=hz _ (List.getElem_mem hlt);omega);(refine Gives.call hm ih fun k hk=>?_);show sennitlaw21_HunkNone.l0 (k+1) _ _ _ _ _ _ _ _ _=_;(rw[sennitlaw21_HunkNone.l0,if_pos (by omega),if_neg (by decide),if_pos (by omega),rdH hlt,hk,Option.bind_some,hw];rfl)
open T20 (tableAll FewT) in
theorem none21 (result:List ByteArray) (ls:List (List ByteArray)):Gives (fun k=>sennitlaw21_HunkNone.f k result ls) true:=by
 obtain⟨K0,k0⟩:=sennitlaw21_awake.gives;obtain⟨b,⟨K1,k1⟩,hb⟩:=T20.ref_May20 result ls;(dsimp only at k1)
 cases b with
 | false =>
  refine⟨K0+K1,fun k hk=>?_⟩;show sennitlaw21_HunkNone.f k result ls=_;rw[sennitlaw21_HunkNone.f,k0 k (by omega),Option.bind_some,k1 k (by omega),Option.bind_some,if_neg (by decide)]
 | true =>
  obtain⟨hF,hw⟩:=hb rfl;obtain⟨K2,k2⟩:=T20.ref_Table20 hF;(dsimp only at k2);(rw[T20.tableF,if_neg (by rw[hw];decide)] at k2);(have hn:ls.length≤16:=by have:=hF.2.1;omega);have hlow:=T20.all_low hF;have hmay:=T20.all_may hw;obtain⟨hf1,hf2⟩:=T20.all_few hF;have hkept:=T20.all_kept (result:=result) hn;obtain⟨rows,hrows⟩ : ∃ rows,tableAll result ls=rows:=⟨_,rfl⟩;(rw[hrows] at k2 hlow hmay hf1 hf2 hkept)
  have h1:hunk_Hunks.f rows 1000 false=some (cutsH rows (shownC rows 1000 false),0):=by
   (rw[hunk_Hunks.f,if_pos hlow,hunksC,if_neg (by omega),if_neg (by rw[hmay];decide)];rfl)
  have h2:hunk_Hunks.f rows 1001 false=some ([],1):=by
   rw[hunk_Hunks.f,if_pos hlow,hunksC,if_pos (by omega)]
  have hh:(rows.any mrkB=true∧(cutsH rows (shownC rows 1000 false)).length=1∧(rd_T48 (cutsH rows (shownC rows 1000 false)) 0).f2=rows∧(rd_T48 (cutsH rows (shownC rows 1000 false)) 0).f1.f1=(result.length:Int))∨(rows.any mrkB=false∧cutsH rows (shownC rows 1000 false)=[]):=by
   cases ha:rows.any mrkB with
   | true =>
    left;obtain⟨x,hx,hm⟩:=List.any_eq_true.1 ha;obtain⟨p,hp,rfl⟩:=List.mem_iff_getElem.1 hx
    have hbl:(rows.filter (fun x => !mrkB x)).length≤1000:=by
     have h3:=blank_few rows;have h4:=hF.1.1;(rw[hkept] at h3);omega
    rw[shown_all hbl ⟨hp,hm⟩,cuts_all (by omega)];refine⟨rfl,rfl,cutR_all rows,?_⟩;show ctN rows rows.length=_;rw[ctN_eq,List.take_length,hkept]
   | false =>
    right;refine⟨rfl,shown_no fun p ⟨hp,hm⟩=>?_⟩;have:=List.any_eq_false.1 ha _ (List.getElem_mem hp);exact this hm
  obtain⟨K3,k3⟩:=none_l0 (result:=result) hf1 (fun x hx=>by have:=(hf2 x hx).1;omega) hh rows.length 0 (by omega);(dsimp only at k3);refine⟨K0+K1+K2+K3,fun k hk=>?_⟩;show sennitlaw21_HunkNone.f k result ls=_;rw[sennitlaw21_HunkNone.f,k0 k (by omega),Option.bind_some,k1 k (by omega),Option.bind_some,if_pos rfl,k2 k (by omega),Option.bind_some,h1,Option.bind_some,h2,Option.bind_some];exact k3 k (by omega)
theorem law_HunkNone (W:World) (hm:MaxAt W) (A0:Option Addr) (c0:Nat) (l0:List ByteArray) (hr0:Kd.C Kd.string W A0 l0.length l0) (hc0:l0.length≤c0) (g0:l0.length * 16≤140737488351232 ∧ ∀ y ∈ l0,y.size≤140737488351232) (A1:Option Addr) (c1:Nat) (l1:List (List ByteArray)) (hr1:Kd.C (Kd.slice 9 Kd.string) W A1 l1.length l1) (hc1:l1.length≤c1) (g1:l1.length * 24≤140737488351232 ∧ ∀ y ∈ l1,y.length * 16≤140737488351232 ∧ ∀ yy ∈ y,yy.size≤140737488351232) :
    Calls Tryd.prog 13 #[.slice A0 l0.length c0, .slice A1 l1.length c1] W fun e w'=>e = .returned (.bool true)∧Below W.heap.size W w':=by
 obtain⟨k,hk⟩:=none21 l0 l1;exact sennitlaw21_HunkNone.calls k A0 c0 l0 A1 c1 l1 true W hr0 hc0 hr1 hc1 (hk k (Nat.le_refl _)) ⟨hm⟩
end Go.Proofs.YthcnfflhejogfaaDoor.X
