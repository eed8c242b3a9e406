/- Parts of one proof. -/
import Derived.Test.YthcnfflhejogfaaDoorBApplyNothing4
set_option linter.unusedVariables false
set_option linter.unusedSimpArgs false
set_option maxRecDepth 100000
set_option maxHeartbeats 8000000
namespace Go.Proofs.YthcnfflhejogfaaDoor.X
open Go.RowKit YthcnfflhejogfaaDoorW.PrintWords YthcnfflhejogfaaDoorW.PrintLast YthcnfflhejogfaaDoorW.PrintMore
attribute [local go_sem] max2_int min2_int max_two min_two max_three min_three max_four min_four
mutual
def sennitref21_Hunks.j0:Nat→List (S57)→Int→Bool→Bool→Option ((List (S48)) × Int)
  | 0,_,_,_,_=>none
  | k+1,x0,x1,x2,x16=>if x16=true then (some (([]:List (S48)),1)) else ((sennitref21_May.f k x0).bind fun t196=>(if t196=true then (sennitref21_Hunks.l0 k x0 x1 x2 ([]:List (S48)) 0) else (some (([]:List (S48)),2))))
def sennitref21_Hunks.l0:Nat→List (S57)→Int→Bool→List (S48)→Int→Option ((List (S48)) × Int)
  | 0,_,_,_,_,_=>none
  | k+1,x0,x1,x2,x8,x9=>if x9 < (x0.length:Int) then (sennitref21_Hunks.l1 k x0 x1 x2 x8 x9 x9) else (some (x8,0))
def sennitref21_Hunks.l1:Nat→List (S57)→Int→Bool→List (S48)→Int→Int→Option ((List (S48)) × Int)
  | 0,_,_,_,_,_,_=>none
  | k+1,x0,x1,x2,x8,x9,x10=>if x10 < (x0.length:Int) then ((sennitref21_shown.f k x0 x10 x1 x2).bind fun t197=>(if t197=true then (sennitref21_Hunks.l1 k x0 x1 x2 x8 x9 (wrap64 (x10+1))) else (if x10 > x9 then ((sennitref21_Hunk.f k x0 x9 x10).bind fun bt198=>(if x8.length < 2199023255552 then (sennitref21_Hunks.l0 k x0 x1 x2 (x8 ++ [(⟨bt198.1,(⟨bt198.2.1,bt198.2.2.1⟩:S45),bt198.2.2.2⟩:S48)]) (wrap64 (x10+1))) else (none))) else (sennitref21_Hunks.l0 k x0 x1 x2 x8 (wrap64 (x10+1)))))) else (if x10 > x9 then ((sennitref21_Hunk.f k x0 x9 x10).bind fun bt209=>(if x8.length < 2199023255552 then (sennitref21_Hunks.l0 k x0 x1 x2 (x8 ++ [(⟨bt209.1,(⟨bt209.2.1,bt209.2.2.1⟩:S45),bt209.2.2.2⟩:S48)]) (wrap64 (x10+1))) else (none))) else (sennitref21_Hunks.l0 k x0 x1 x2 x8 (wrap64 (x10+1))))
end
def sennitref21_Hunks.f (k:Nat) (l0:List (S57)) (a1:Int) (a2:Bool):Option ((List (S48)) × Int):=if a1 < 0 then (sennitref21_Hunks.j0 k l0 a1 a2 true) else (sennitref21_Hunks.j0 k l0 a1 a2 (decide (a1 > 1000)))
theorem sennitref21_Hunks.calls (k:Nat) (P0_:Nat→Prop) (A0:Option Addr) (c0:Nat) (l0:List (S57)) (a1:Int) (a2:Bool) (r1:List (S48)) (r2:Int) (w:World) (hs0:Kd.V k57 57 w w.heap.size (fun k_=>P0_ k_) (.slice A0 l0.length c0) l0) (h:sennitref21_Hunks.f k l0 a1 a2=some (r1,r2)) :
    Calls Tryd.prog 24 #[.slice A0 l0.length c0, .int .i64 a1, .bool a2] w fun e w' => ∃ v0_:Value,e = .returned (.tuple #[v0_, .int .i64 r2])∧Kd.N k48 48 w' w.heap.size (fun k_=>(P0_ k_∨w.heap.size≤k_)) v0_ r1∧Below w.heap.size w w':=by
 have HO0:=Aside0.mk (show Kd.V k57 57 w w.heap.size (fun k_=>(P0_ k_∨w.heap.size≤k_)) (.slice A0 l0.length c0) l0 from Kd.V_mono hs0 (fun k_ hk => .inl hk));have HB:=Aside0.mk (Below.refl w.heap.size w);have H:=h;(rw[sennitref21_Hunks.f] at H);clear h;have HC4:=Aside0.mk H;clear H;go_enter Tryd.func24,Tryd.ntmps24
 go_upto_region 1 with (fail)
 go_cut [16] (fun v16 wc => ∃ (kq:Nat) (x16_3:Bool),v16 = .bool x16_3∧Aside0 (sennitref21_Hunks.j0 kq l0 a1 a2 x16_3=some (r1,r2))∧Aside0 (kq≤k)∧Aside0 (Kd.V k57 57 wc w.heap.size (fun k_=>(P0_ k_∨w.heap.size≤k_)) (.slice A0 l0.length c0) l0)∧Aside0 (Below w.heap.size w wc))
 case first =>
  have H:=HC4.out;clear HC4
  by_cases c5:a1 < 0
  ·
   (rw[if_pos c5] at H);have c5b0:decide (a1 < 0)=true:=decide_eq_true c5;clear c5;(first|rw[c5b0]|(simp only[i64_w,i32_w];rw[c5b0])|skip);have H':=Aside0.mk H;clear H;go_wp2
   go_meet
   (case rel=>exact⟨_,(true),rs_,H',⟨by first|omega|exact Nat.le_refl _⟩,⟨pV_ HO0.out⟩,⟨bel_⟩⟩)
  ·
   (rw[if_neg c5] at H);have c5b0:decide (a1 < 0)=false:=decide_eq_false c5;clear c5;(first|rw[c5b0]|(simp only[i64_w,i32_w];rw[c5b0])|skip);have H':=Aside0.mk H;clear H;go_wp2
   go_meet
   (case rel=>exact⟨_,(decide (a1 > 1000)),rs_,H',⟨by first|omega|exact Nat.le_refl _⟩,⟨pV_ HO0.out⟩,⟨bel_⟩⟩)
 case rest =>
  clear HC4;(try clear c2);(try clear p2);(try clear c5);(try clear c5b0);obtain⟨kq,x16_3,rfl,HA,HJ3,HO_0,HB⟩:=hcut
  cases kq with
  | zero=>exact absurd HA.out (by simp[sennitref21_Hunks.j0])
  | succ kj3 =>
   have H:=HA.out;clear HA;(simp only[sennitref21_Hunks.j0] at H)
   by_cases c6:x16_3=true
   (· subst c6;have H1:=H;(rw[if_pos rfl] at H1);clear H;have H:=H1;clear H1;(simp only[Option.some.injEq,Prod.mk.injEq] at H);obtain⟨rfl,rfl⟩:=H;go_wp2;go_ret2;exact⟨_,ew_,by first|exact Kd.S_nil _ _ _ _ _|exact Kd.N_nil _ _ _ _ _|exact Kd.V_nil _ _ _ _ _|exact Kd.Q_nil _ _ _ _ _|exact Kd.R_nil _ _ _ _ _,bel_⟩)
   ·
    replace c6:=Bool.eq_false_iff.mpr c6;subst c6;have H1:=H;(rw[if_neg (show ¬ (false=true) by decide)] at H1);clear H;have H:=H1;clear H1;replace H:=Option.bind_eq_some_iff.mp H;obtain⟨t196,A70,H⟩:=H;(try dsimp only at H);have A7:=Aside0.mk A70;clear A70
    by_cases c8:t196=true
    ·
     subst c8;have H1:=H;(rw[if_pos rfl] at H1);clear H;have H:=H1;clear H1;have H':=Aside0.mk H;clear H;(go_wp2_with (first|((with_reducible refine gate_callee (f:=30) rfl ?_);refine goesL_ (some 18) rfl rfl Tryd.func30 (by kernel_rfl) rfl #[.slice A0 l0.length c0] rfl am_ ?_;(with_reducible refine(sennitref21_May.calls kj3 _ _ l0 true _ ?side1 ?side2 A7.out).mono ?_);(case side1=>repeat(first|exact(Kd.V_reads' HO_0.out).2.2|(with_reducible refine Kd.C_alloc ?_ _)|(with_reducible refine Kd.C_drewN ?_ _)|(with_reducible refine Kd.C_drew ?_)));(case side2=>exact(Kd.V_reads' HO_0.out).2.1);rintro e w9 ⟨rfl,hb⟩;refine⟨_,rfl,?_⟩;replace HO_0:=Aside0.mk (Kd.V_below (pV_ HO_0.out) hb);replace HB:=Aside0.mk (bst bel_ hb);(try clear hb);(try clear hb2);(try clear hk);(try clear hi))))
     go_loopg [8,9] kj3 (fun kq v8 v9 w' => ∃ (x8_2:List (S48)) (x9_2:Int),v9 = .int .i64 x9_2∧Aside0 (sennitref21_Hunks.l0 kq l0 a1 a2 x8_2 x9_2=some (r1,r2))∧Aside0 (kq≤kj3)∧Aside0 (Kd.V k57 57 w' w.heap.size (fun k_=>(P0_ k_∨w.heap.size≤k_)∧some k_≠(v8:Value).ownBlock) (.slice A0 l0.length c0) l0)∧Aside0 (Kd.N k48 48 w' w.heap.size (fun k_=>(P0_ k_∨w.heap.size≤k_)) v8 x8_2)∧Aside0 (Below w.heap.size w w'))
     (case atStart=>exact⟨(([]:List (S48))),(0),rs_,H',⟨Nat.le_refl _⟩,⟨Kd.V_mono (pV_ HO_0.out) (fun _ hk=>⟨hk,(by simp[Value.ownBlock])⟩)⟩,⟨by first|exact Kd.S_nil _ _ _ _ _|exact Kd.N_nil _ _ _ _ _|exact Kd.V_nil _ _ _ _ _|exact Kd.Q_nil _ _ _ _ _|exact Kd.R_nil _ _ _ _ _⟩,⟨bel_⟩⟩)
     case round =>
      clear H';(try clear c2);(try clear p2);(try clear c3);(try clear c5);(try clear c5b0);(try clear c6);(try clear c8);(try clear p2);obtain⟨x8_2,x9_2,rfl,HA,HK2,HO_0,HO_8,HB⟩:=hrel
      cases gk with
      | zero=>exact absurd HA.out (by simp[sennitref21_Hunks.l0])
      | succ k2 =>
       have H:=HA.out;clear HA;(simp only[sennitref21_Hunks.l0] at H)
       by_cases c10:x9_2 < (l0.length:Int)
       ·
        (rw[if_pos c10] at H);have c10b0:decide (x9_2 < (l0.length:Int))=true:=decide_eq_true c10;clear c10;have H':=Aside0.mk H;clear H;go_wp2
        go_loopg [10] k2 (fun kq v10 w' => ∃ (x10_3:Int),v10 = .int .i64 x10_3∧Aside0 (sennitref21_Hunks.l1 kq l0 a1 a2 x8_2 x9_2 x10_3=some (r1,r2))∧Aside0 (kq≤k2)∧Aside0 (Kd.V k57 57 w' w.heap.size (fun k_=>(P0_ k_∨w.heap.size≤k_)∧some k_≠(u8:Value).ownBlock) (.slice A0 l0.length c0) l0)∧Aside0 (Kd.N k48 48 w' w.heap.size (fun k_=>(P0_ k_∨w.heap.size≤k_)) u8 x8_2)∧Aside0 (Below w.heap.size w w'))
        (case atStart=>exact⟨(x9_2),rs_,H',⟨Nat.le_refl _⟩,⟨pV_ HO_0.out⟩,⟨pN_ HO_8.out⟩,⟨bel_⟩⟩)
        case round =>
         clear H';(try clear c1);(try clear c2);(try clear p2);(try clear c3);(try clear c5);(try clear c5b0);(try clear c6);(try clear c8);(try clear c10);(try clear c10b0);(try clear p2);obtain⟨x10_3,rfl,HA,HK3,HO_0,HO_8,HB⟩:=hrel
         cases gk with
         | zero=>exact absurd HA.out (by simp[sennitref21_Hunks.l1])
         | succ k3 =>
          have H:=HA.out;clear HA;(simp only[sennitref21_Hunks.l1] at H)
          by_cases c11:x10_3 < (l0.length:Int)
          ·
           (rw[if_pos c11] at H);have c11b0:decide (x10_3 < (l0.length:Int))=true:=decide_eq_true c11;clear c11;replace H:=Option.bind_eq_some_iff.mp H;obtain⟨t197,A120,H⟩:=H;(try dsimp only at H);have A12:=Aside0.mk A120;clear A120
           by_cases c13:t197=true
           ·
            subst c13;have H1:=H;(rw[if_pos rfl] at H1);clear H;have H:=H1;clear H1;have H':=Aside0.mk H;clear H;(go_wp2_with (first|(go_at_call 49;(with_reducible refine(sennitref21_shown.calls k3 _ _ l0 x10_3 a1 a2 true _ ?side1 ?side2 A12.out).mono ?_);(case side1=>repeat(first|exact(Kd.V_reads' HO_0.out).2.2|(with_reducible refine Kd.C_alloc ?_ _)|(with_reducible refine Kd.C_drewN ?_ _)|(with_reducible refine Kd.C_drew ?_)));(case side2=>exact(Kd.V_reads' HO_0.out).2.1);rintro e w14 ⟨rfl,hb⟩;replace HO_0:=Aside0.mk (Kd.V_below (pV_ HO_0.out) hb);replace HO_8:=Aside0.mk (Kd.N_below (pN_ HO_8.out) hb);replace HB:=Aside0.mk (bst bel_ hb);(try clear hb);(try clear hb2);(try clear hk);(try clear hi))))
            go_roundg k3
            (case measure=>have:=HJ3.out;have:=HK2.out;have:=HK3.out;omega);(case rel=>exact⟨(wrap64 (x10_3+1)),rs_,H',⟨by have:=HJ3.out;have:=HK2.out;have:=HK3.out;omega⟩,⟨pV_ HO_0.out⟩,⟨pN_ HO_8.out⟩,⟨bel_⟩⟩)
           ·
            replace c13:=Bool.eq_false_iff.mpr c13;subst c13;have H1:=H;(rw[if_neg (show ¬ (false=true) by decide)] at H1);clear H;have H:=H1;clear H1
            by_cases c15:x10_3 > x9_2
            ·
             (rw[if_pos c15] at H);have c15b0:decide (x9_2 < x10_3)=true:=decide_eq_true c15;clear c15;replace H:=Option.bind_eq_some_iff.mp H;obtain⟨⟨t198,t201,t202,t203⟩,A160,H⟩:=H;(try dsimp only at H);have A16:=Aside0.mk A160;clear A160
             by_cases c17:x8_2.length < 2199023255552
             ·
              (rw[if_pos c17] at H);have LMc17:=Aside0.mk c17;clear c17;obtain⟨y206,hy206⟩ : ∃ y_:List (S48),y_=(x8_2 ++ [(⟨t198,(⟨t201,t202⟩:S45),t203⟩:S48)]):=⟨_,rfl⟩;((try rw[Option.bind_some] at H);rw[← hy206] at H);have Ny206:=Aside0.mk hy206;clear hy206;have H':=Aside0.mk H;clear H
              (go_wp2_with (first|(go_at_call 49;(with_reducible refine(sennitref21_shown.calls k3 _ _ l0 x10_3 a1 a2 false _ ?side1 ?side2 A12.out).mono ?_);(case side1=>repeat(first|exact(Kd.V_reads' HO_0.out).2.2|(with_reducible refine Kd.C_alloc ?_ _)|(with_reducible refine Kd.C_drewN ?_ _)|(with_reducible refine Kd.C_drew ?_)));(case side2=>exact(Kd.V_reads' HO_0.out).2.1);rintro e w18 ⟨rfl,hb⟩;replace HO_0:=Aside0.mk (Kd.V_below (pV_ HO_0.out) hb);replace HO_8:=Aside0.mk (Kd.N_below (pN_ HO_8.out) hb);replace HB:=Aside0.mk (bst bel_ hb);(try clear hb);(try clear hb2);(try clear hk);(try clear hi))|((with_reducible refine gate_callee (f:=50) rfl ?_);refine goesL_ (some 45) rfl rfl Tryd.func50 (by kernel_rfl) rfl #[.slice A0 l0.length c0, .int .i64 x9_2, .int .i64 x10_3] rfl am_ ?_;(with_reducible refine(sennitref21_Hunk.calls k3 (fun k_=>((P0_ k_∨w.heap.size≤k_)∧some k_≠(u8:Value).ownBlock)) _ _ l0 x9_2 x10_3 t198 t201 t202 t203 _ ?side1 A16.out).mono ?_);(case side1=>exact HO_0.out);rintro e w19 ⟨v199,v204,rfl,ho0,ho1,hb⟩;refine⟨_,rfl,?_⟩;replace HO_0:=Aside0.mk (Kd.V_elder' (pV_ HO_0.out) (Kd.R_base ho0) hb);have HO200:=Aside0.mk (Kd.R_lower (Kd.R_newM (M:=fun k_=>(w.heap.size≤k_)) (Kd.R_mono (ok':=fun k_=>True) ho0 (fun _ hk_=>trivial)) (bsz bel_) (fun k_ h_=>h_)) (bsz bel_));have HO205:=Aside0.mk (Kd.V_lower (Kd.V_mono (ok':=fun k_=>(P0_ k_∨w.heap.size≤k_)∧some k_≠(v199:Value).ownBlock∧some k_≠(u8:Value).ownBlock) ho1 (fun k_ hk_=>⟨Or.elim hk_.1 (fun hs_=>hs_.1) (fun hn_=>(.inr (Nat.le_trans (bsz bel_) hn_))),hk_.2,Or.elim hk_.1 (fun hs_=>hs_.2) (fun hn_=>(Kd.fresh' (Kd.N_lt (pN_ HO_8.out)) k_ hn_))⟩)) (bsz bel_));replace HO_8:=Aside0.mk (Kd.N_elder' (pN_ HO_8.out) (Kd.R_base ho0) hb);replace HB:=Aside0.mk (bst bel_ hb);(try clear hb);(try clear hb2);(try clear hk);(try clear hi);(try clear ho0);(try clear ho1);obtain⟨Ao21,co21,eo21⟩:=Kd.R_slice HO200.out;subst eo21;obtain⟨Ao22,co22,eo22⟩:=Kd.V_slice HO205.out;subst eo22)|((with_reducible refine gate_builtin (b := .append) (xs:=#[.tmp 41, .tmp 46]) rfl ?_);at_builtin;refine Kd.N_append k48 (w0:=w) w.heap.size rfl (.tmp 41) (.tmp 46) 22 48 (.agg #[(.slice none 0 0),(.int .i64 0),(.int .i64 0),(.slice none 0 0)]) 64 rfl Tryd.underlying22 info48 rfl (by decide) (by omega) u8 x8_2 (⟨t198,(⟨t201,t202⟩:S45),t203⟩:S48) [.slice Ao21 t198.length co21, .int .i64 t201, .int .i64 t202, .slice Ao22 t203.length co22] (fun k_=>(P0_ k_∨w.heap.size≤k_)) (fun k_=>((fun k_=>(P0_ k_∨w.heap.size≤k_))) k_∧some k_≠(u8:Value).ownBlock) rfl rfl ?aP (fun _ hk=>hk) ?aF ?aO ?aB ?aS ?aL ?_;(case aP=>exact(k48_mkF _ _ (⟨t198,(⟨t201,t202⟩:S45),t203⟩:S48) (Kd.R_reads' (Kd.R_mono (ok':=(fun k_=>((fun k_=>(P0_ k_∨w.heap.size≤k_))) k_∧some k_≠(u8:Value).ownBlock)) (Kd.R_apart' (HO200.out) (Kd.N_typed HO_8.out) (by decide)) (fun k_ hk=>⟨(.inr (hk.1.1)),hk.2⟩))).2.1 (Kd.R_F (Kd.R_mono (ok':=(fun k_=>((fun k_=>(P0_ k_∨w.heap.size≤k_))) k_∧some k_≠(u8:Value).ownBlock)) (Kd.R_apart' (HO200.out) (Kd.N_typed HO_8.out) (by decide)) (fun k_ hk=>⟨(.inr (hk.1.1)),hk.2⟩))) (Kd.V_reads' (Kd.V_mono (ok':=(fun k_=>((fun k_=>(P0_ k_∨w.heap.size≤k_))) k_∧some k_≠(u8:Value).ownBlock)) (HO205.out) (fun k_ hk=>⟨hk.1,hk.2.2⟩))).2.1 (Kd.V_F (Kd.V_mono (ok':=(fun k_=>((fun k_=>(P0_ k_∨w.heap.size≤k_))) k_∧some k_≠(u8:Value).ownBlock)) (HO205.out) (fun k_ hk=>⟨hk.1,hk.2.2⟩)))));(case aB=>exact bel_);(case aF=>exact(fun k_ hk=>(.inr (Nat.le_trans (bsz bel_) hk))));(case aO=>exact(Kd.N_mono (pN_ HO_8.out) (fun _ hk=>hk.1)));(case aS=>exact(bsz bel_));(case aL=>have:=LMc17.out;omega);intro v207 w20 ho hb hg hat;rw[← Ny206.out] at ho;replace HO_0:=Aside0.mk (Kd.V_afterv (ok:=(fun k_=>(P0_ k_∨w.heap.size≤k_)∧some k_≠(.slice Ao21 t198.length co21:Value).ownBlock)) (Kd.V_mono (pV_ HO_0.out) (fun _ hk=>⟨⟨hk.1.1,hk.2⟩,hk.1.2⟩)) hg hat);replace HO205:=Aside0.mk (Kd.V_afterv (ok:=(fun k_=>(P0_ k_∨w.heap.size≤k_)∧some k_≠(.slice Ao21 t198.length co21:Value).ownBlock)) (Kd.V_mono (pV_ HO205.out) (fun _ hk=>⟨⟨hk.1,hk.2.1⟩,hk.2.2⟩)) hg hat);replace HB:=Aside0.mk (hb);have HO208:=Aside0.mk (ho);clear HO_8;clear HO200;clear ho hb hg hat)))
              go_roundg k3
              (case measure=>have:=HJ3.out;have:=HK2.out;have:=HK3.out;omega);(case rel=>exact⟨(y206),(wrap64 (x10_3+1)),rs_,H',⟨by have:=HJ3.out;have:=HK2.out;have:=HK3.out;omega⟩,⟨Kd.V_mono (pV_ HO_0.out) (fun _ hk=>⟨hk.1.1,hk.2⟩)⟩,⟨pN_ HO208.out⟩,⟨bel_⟩⟩)
             (· exact nx_ c17 H)
            ·
             (rw[if_neg c15] at H);have c15b0:decide (x9_2 < x10_3)=false:=decide_eq_false c15;clear c15;have H':=Aside0.mk H;clear H;(go_wp2_with (first|(go_at_call 49;(with_reducible refine(sennitref21_shown.calls k3 _ _ l0 x10_3 a1 a2 false _ ?side1 ?side2 A12.out).mono ?_);(case side1=>repeat(first|exact(Kd.V_reads' HO_0.out).2.2|(with_reducible refine Kd.C_alloc ?_ _)|(with_reducible refine Kd.C_drewN ?_ _)|(with_reducible refine Kd.C_drew ?_)));(case side2=>exact(Kd.V_reads' HO_0.out).2.1);rintro e w23 ⟨rfl,hb⟩;replace HO_0:=Aside0.mk (Kd.V_below (pV_ HO_0.out) hb);replace HO_8:=Aside0.mk (Kd.N_below (pN_ HO_8.out) hb);replace HB:=Aside0.mk (bst bel_ hb);(try clear hb);(try clear hb2);(try clear hk);(try clear hi))))
             go_roundg k3
             (case measure=>have:=HJ3.out;have:=HK2.out;have:=HK3.out;omega);(case rel=>exact⟨(x8_2),(wrap64 (x10_3+1)),rs_,H',⟨by have:=HJ3.out;have:=HK2.out;have:=HK3.out;omega⟩,⟨pV_ HO_0.out⟩,⟨pN_ HO_8.out⟩,⟨bel_⟩⟩)
          ·
           (rw[if_neg c11] at H);have c11b0:decide (x10_3 < (l0.length:Int))=false:=decide_eq_false c11;clear c11
           by_cases c24:x10_3 > x9_2
           ·
            (rw[if_pos c24] at H);have c24b0:decide (x9_2 < x10_3)=true:=decide_eq_true c24;clear c24;replace H:=Option.bind_eq_some_iff.mp H;obtain⟨⟨t209,t212,t213,t214⟩,A250,H⟩:=H;(try dsimp only at H);have A25:=Aside0.mk A250;clear A250
            by_cases c26:x8_2.length < 2199023255552
            ·
             (rw[if_pos c26] at H);have LMc26:=Aside0.mk c26;clear c26;obtain⟨y217,hy217⟩ : ∃ y_:List (S48),y_=(x8_2 ++ [(⟨t209,(⟨t212,t213⟩:S45),t214⟩:S48)]):=⟨_,rfl⟩;((try rw[Option.bind_some] at H);rw[← hy217] at H);have Ny217:=Aside0.mk hy217;clear hy217;have H':=Aside0.mk H;clear H
             (go_wp2_with (first|((with_reducible refine gate_callee (f:=50) rfl ?_);refine goesL_ (some 45) rfl rfl Tryd.func50 (by kernel_rfl) rfl #[.slice A0 l0.length c0, .int .i64 x9_2, .int .i64 x10_3] rfl am_ ?_;(with_reducible refine(sennitref21_Hunk.calls k3 (fun k_=>((P0_ k_∨w.heap.size≤k_)∧some k_≠(u8:Value).ownBlock)) _ _ l0 x9_2 x10_3 t209 t212 t213 t214 _ ?side1 A25.out).mono ?_);(case side1=>exact HO_0.out);rintro e w27 ⟨v210,v215,rfl,ho0,ho1,hb⟩;refine⟨_,rfl,?_⟩;replace HO_0:=Aside0.mk (Kd.V_elder' (pV_ HO_0.out) (Kd.R_base ho0) hb);have HO211:=Aside0.mk (Kd.R_lower (Kd.R_newM (M:=fun k_=>(w.heap.size≤k_)) (Kd.R_mono (ok':=fun k_=>True) ho0 (fun _ hk_=>trivial)) (bsz bel_) (fun k_ h_=>h_)) (bsz bel_));have HO216:=Aside0.mk (Kd.V_lower (Kd.V_mono (ok':=fun k_=>(P0_ k_∨w.heap.size≤k_)∧some k_≠(v210:Value).ownBlock∧some k_≠(u8:Value).ownBlock) ho1 (fun k_ hk_=>⟨Or.elim hk_.1 (fun hs_=>hs_.1) (fun hn_=>(.inr (Nat.le_trans (bsz bel_) hn_))),hk_.2,Or.elim hk_.1 (fun hs_=>hs_.2) (fun hn_=>(Kd.fresh' (Kd.N_lt (pN_ HO_8.out)) k_ hn_))⟩)) (bsz bel_));replace HO_8:=Aside0.mk (Kd.N_elder' (pN_ HO_8.out) (Kd.R_base ho0) hb);replace HB:=Aside0.mk (bst bel_ hb);(try clear hb);(try clear hb2);(try clear hk);(try clear hi);(try clear ho0);(try clear ho1);obtain⟨Ao29,co29,eo29⟩:=Kd.R_slice HO211.out;subst eo29;obtain⟨Ao30,co30,eo30⟩:=Kd.V_slice HO216.out;subst eo30)|((with_reducible refine gate_builtin (b := .append) (xs:=#[.tmp 41, .tmp 46]) rfl ?_);at_builtin;refine Kd.N_append k48 (w0:=w) w.heap.size rfl (.tmp 41) (.tmp 46) 22 48 (.agg #[(.slice none 0 0),(.int .i64 0),(.int .i64 0),(.slice none 0 0)]) 64 rfl Tryd.underlying22 info48 rfl (by decide) (by omega) u8 x8_2 (⟨t209,(⟨t212,t213⟩:S45),t214⟩:S48) [.slice Ao29 t209.length co29, .int .i64 t212, .int .i64 t213, .slice Ao30 t214.length co30] (fun k_=>(P0_ k_∨w.heap.size≤k_)) (fun k_=>((fun k_=>(P0_ k_∨w.heap.size≤k_))) k_∧some k_≠(u8:Value).ownBlock) rfl rfl ?aP (fun _ hk=>hk) ?aF ?aO ?aB ?aS ?aL ?_;(case aP=>exact(k48_mkF _ _ (⟨t209,(⟨t212,t213⟩:S45),t214⟩:S48) (Kd.R_reads' (Kd.R_mono (ok':=(fun k_=>((fun k_=>(P0_ k_∨w.heap.size≤k_))) k_∧some k_≠(u8:Value).ownBlock)) (Kd.R_apart' (HO211.out) (Kd.N_typed HO_8.out) (by decide)) (fun k_ hk=>⟨(.inr (hk.1.1)),hk.2⟩))).2.1 (Kd.R_F (Kd.R_mono (ok':=(fun k_=>((fun k_=>(P0_ k_∨w.heap.size≤k_))) k_∧some k_≠(u8:Value).ownBlock)) (Kd.R_apart' (HO211.out) (Kd.N_typed HO_8.out) (by decide)) (fun k_ hk=>⟨(.inr (hk.1.1)),hk.2⟩))) (Kd.V_reads' (Kd.V_mono (ok':=(fun k_=>((fun k_=>(P0_ k_∨w.heap.size≤k_))) k_∧some k_≠(u8:Value).ownBlock)) (HO216.out) (fun k_ hk=>⟨hk.1,hk.2.2⟩))).2.1 (Kd.V_F (Kd.V_mono (ok':=(fun k_=>((fun k_=>(P0_ k_∨w.heap.size≤k_))) k_∧some k_≠(u8:Value).ownBlock)) (HO216.out) (fun k_ hk=>⟨hk.1,hk.2.2⟩)))));(case aB=>exact bel_);(case aF=>exact(fun k_ hk=>(.inr (Nat.le_trans (bsz bel_) hk))));(case aO=>exact(Kd.N_mono (pN_ HO_8.out) (fun _ hk=>hk.1)));(case aS=>exact(bsz bel_));(case aL=>have:=LMc26.out;omega);intro v218 w28 ho hb hg hat;rw[← Ny217.out] at ho;replace HO_0:=Aside0.mk (Kd.V_afterv (ok:=(fun k_=>(P0_ k_∨w.heap.size≤k_)∧some k_≠(.slice Ao29 t209.length co29:Value).ownBlock)) (Kd.V_mono (pV_ HO_0.out) (fun _ hk=>⟨⟨hk.1.1,hk.2⟩,hk.1.2⟩)) hg hat);replace HO216:=Aside0.mk (Kd.V_afterv (ok:=(fun k_=>(P0_ k_∨w.heap.size≤k_)∧some k_≠(.slice Ao29 t209.length co29:Value).ownBlock)) (Kd.V_mono (pV_ HO216.out) (fun _ hk=>⟨⟨hk.1,hk.2.1⟩,hk.2.2⟩)) hg hat);replace HB:=Aside0.mk (hb);have HO219:=Aside0.mk (ho);clear HO_8;clear HO211;clear ho hb hg hat)))
             go_roundg k3
             (case measure=>have:=HJ3.out;have:=HK2.out;have:=HK3.out;omega);(case rel=>exact⟨(y217),(wrap64 (x10_3+1)),rs_,H',⟨by have:=HJ3.out;have:=HK2.out;have:=HK3.out;omega⟩,⟨Kd.V_mono (pV_ HO_0.out) (fun _ hk=>⟨hk.1.1,hk.2⟩)⟩,⟨pN_ HO219.out⟩,⟨bel_⟩⟩)
            (· exact nx_ c26 H)
           ·
            (rw[if_neg c24] at H);have c24b0:decide (x9_2 < x10_3)=false:=decide_eq_false c24;clear c24;have H':=Aside0.mk H;clear H;go_wp2
            go_roundg k3
            (case measure=>have:=HJ3.out;have:=HK2.out;have:=HK3.out;omega);(case rel=>exact⟨(x8_2),(wrap64 (x10_3+1)),rs_,H',⟨by have:=HJ3.out;have:=HK2.out;have:=HK3.out;omega⟩,⟨pV_ HO_0.out⟩,⟨pN_ HO_8.out⟩,⟨bel_⟩⟩)
       (· (rw[if_neg c10] at H);have c10b0:decide (x9_2 < (l0.length:Int))=false:=decide_eq_false c10;clear c10;(simp only[Option.some.injEq,Prod.mk.injEq] at H);obtain⟨rfl,rfl⟩:=H;go_wp2;go_ret2;exact⟨_,ew_,by(with_reducible repeat(first|apply Kd.N_alloc|apply Kd.N_drewN|apply Kd.N_drew));exact HO_8.out,bel_⟩)
    (· replace c8:=Bool.eq_false_iff.mpr c8;subst c8;have H1:=H;(rw[if_neg (show ¬ (false=true) by decide)] at H1);clear H;have H:=H1;clear H1;(simp only[Option.some.injEq,Prod.mk.injEq] at H);obtain⟨rfl,rfl⟩:=H;(go_wp2_with (first|((with_reducible refine gate_callee (f:=30) rfl ?_);refine goesL_ (some 18) rfl rfl Tryd.func30 (by kernel_rfl) rfl #[.slice A0 l0.length c0] rfl am_ ?_;(with_reducible refine(sennitref21_May.calls kj3 _ _ l0 false _ ?side1 ?side2 A7.out).mono ?_);(case side1=>repeat(first|exact(Kd.V_reads' HO_0.out).2.2|(with_reducible refine Kd.C_alloc ?_ _)|(with_reducible refine Kd.C_drewN ?_ _)|(with_reducible refine Kd.C_drew ?_)));(case side2=>exact(Kd.V_reads' HO_0.out).2.1);rintro e w31 ⟨rfl,hb⟩;refine⟨_,rfl,?_⟩;replace HO_0:=Aside0.mk (Kd.V_below (pV_ HO_0.out) hb);replace HB:=Aside0.mk (bst bel_ hb);(try clear hb);(try clear hb2);(try clear hk);(try clear hi))));go_ret2;exact⟨_,ew_,by first|exact Kd.S_nil _ _ _ _ _|exact Kd.N_nil _ _ _ _ _|exact Kd.V_nil _ _ _ _ _|exact Kd.Q_nil _ _ _ _ _|exact Kd.R_nil _ _ _ _ _,bel_⟩)
mutual
def sennitref20_wrong.j0:Nat→List ByteArray→List (List ByteArray)→Bool→Option (Int)
  | 0,_,_,_=>none
  | k+1,x0,x1,x15=>if x15=true then (some 1) else ((sennitref01_May.f k x0).bind fun t238=>(sennitref20_wrong.l0 k x1 t238 (decide ((x0.length:Int) > 2000)) 0))
def sennitref20_wrong.l0:Nat→List (List ByteArray)→Bool→Bool→Int→Option (Int)
  | 0,_,_,_,_=>none
  | k+1,x1,x5,x6,x7=>if x7 < (x1.length:Int) then (if x5=true then (if 0≤x7 then ((sennitref01_May.f k (rd_L8 x1 x7)).bind fun t240=>(if x6=true then (sennitref20_wrong.l0 k x1 t240 true (wrap64 (x7+1))) else (sennitref20_wrong.l0 k x1 t240 (decide (((rd_L8 x1 x7).length:Int) > 2000)) (wrap64 (x7+1))))) else (none)) else (if x6=true then (sennitref20_wrong.l0 k x1 false true (wrap64 (x7+1))) else (if 0≤x7 then (sennitref20_wrong.l0 k x1 false (decide (((rd_L8 x1 x7).length:Int) > 2000)) (wrap64 (x7+1))) else (none)))) else (if x5=true then (if x6=true then (some 4) else (some 0)) else (some 2))
end
def sennitref20_wrong.f (k:Nat) (l0:List ByteArray) (l1:List (List ByteArray)):Option (Int):=if (l1.length:Int)=0 then (sennitref20_wrong.j0 k l0 l1 true) else (sennitref20_wrong.j0 k l0 l1 (decide ((l1.length:Int) > 16)))
theorem sennitref20_wrong.calls (k:Nat) (A0:Option Addr) (c0:Nat) (l0:List ByteArray) (A1:Option Addr) (c1:Nat) (l1:List (List ByteArray)) (r:Int) (w:World) (hr0:Kd.C Kd.string w A0 l0.length l0) (hc0:l0.length≤c0) (hr1:Kd.C (Kd.slice 9 Kd.string) w A1 l1.length l1) (hc1:l1.length≤c1) (h:sennitref20_wrong.f k l0 l1=some r) :
    Calls Tryd.prog 45 #[.slice A0 l0.length c0, .slice A1 l1.length c1] w fun e w'=>e = .returned (.int .i64 r)∧Drawn0 w w':=by
 have HR0:=Aside0.mk hr0;have HC0:=Aside0.mk hc0;clear hr0 hc0;have HR1:=Aside0.mk hr1;have HC1:=Aside0.mk hc1;clear hr1 hc1;have H:=h;(rw[sennitref20_wrong.f] at H);clear h;have HC3:=Aside0.mk H;clear H;go_enter Tryd.func45,Tryd.ntmps45
 go_upto_region 1 with (fail)
 go_cut [15] (fun v15 wc => ∃ (kq:Nat) (x15_2:Bool),v15 = .bool x15_2∧Aside0 (sennitref20_wrong.j0 kq l0 l1 x15_2=some r)∧Aside0 (kq≤k)∧Drawn0 w wc)
 case first =>
  have H:=HC3.out;clear HC3
  by_cases c4:(l1.length:Int)=0
  ·
   (rw[if_pos c4] at H);have c4b0:((l1.length:Int) == 0)=true:=beq_iff_eq.mpr c4;have c4b1:((l1.length:Int) != 0)=false:=bne_eq_false_iff_eq.mpr c4;clear c4;(first|rw[c4b0]|(simp only[i64_w,i32_w];rw[c4b0])|skip);have H':=Aside0.mk H;clear H;go_wp2
   go_meet
   (case rel=>exact⟨_,(true),rs_,H',⟨by first|omega|exact Nat.le_refl _⟩,d0_⟩)
  ·
   (rw[if_neg c4] at H);have c4b0:((l1.length:Int) == 0)=false:=beq_eq_false_iff_ne.mpr c4;have c4b1:((l1.length:Int) != 0)=true:=bne_iff_ne.mpr c4;(have c4b2 : ¬ (l1=[]):=fun h_=>c4 (by rw[h_];rfl));(first|rw[c4b0]|(simp only[i64_w,i32_w];rw[c4b0])|skip);have H':=Aside0.mk H;clear H;go_wp2
   go_meet
   (case rel=>exact⟨_,(decide ((l1.length:Int) > 16)),rs_,H',⟨by first|omega|exact Nat.le_refl _⟩,d0_⟩)
 case rest =>
  clear HC3;(try clear c1);(try clear p2);(try clear c4);(try clear c4b0);(try clear c4b1);(try clear c4b2);obtain⟨kq,x15_2,rfl,HA,HJ2,⟨mc2,rfl⟩⟩:=hcut
  cases kq with
  | zero=>exact absurd HA.out (by simp[sennitref20_wrong.j0])
  | succ kj2 =>
   have H:=HA.out;clear HA;(simp only[sennitref20_wrong.j0] at H)
   by_cases c5:x15_2=true
   (· subst c5;have H1:=H;(rw[if_pos rfl] at H1);clear H;have H:=H1;clear H1;obtain rfl:=Option.some.inj H;go_wp2;go_ret;exact⟨by first|rfl|(simp;done)|(simp[*];done),d0_⟩)
   ·
    replace c5:=Bool.eq_false_iff.mpr c5;subst c5;have H1:=H;(rw[if_neg (show ¬ (false=true) by decide)] at H1);clear H;have H:=H1;clear H1;replace H:=Option.bind_eq_some_iff.mp H;obtain⟨t238,A60,H⟩:=H;(try dsimp only at H);have A6:=Aside0.mk A60;clear A60;have H':=Aside0.mk H;clear H;(go_wp2_with (first|((with_reducible refine gate_callee (f:=25) rfl ?_);refine goesL_ (some 17) rfl rfl Tryd.func25 (by kernel_rfl) rfl #[.slice A0 l0.length c0] rfl am_ ?_;(with_reducible refine(sennitref01_May.calls kj2 _ _ l0 t238 _ ?side1 ?side2 A6.out).mono ?_);(case side1=>exact pC_ HR0.out);(case side2=>exact HC0.out);rintro e w' ⟨rfl,⟨nd,rfl⟩⟩;refine⟨_,rfl,?_⟩)))
    go_loopg [5,6,7] kj2 (fun kq v5 v6 v7 w' => ∃ (x5_2:Bool) (x6_2:Bool) (x7_2:Int),v5 = .bool x5_2∧v6 = .bool x6_2∧v7 = .int .i64 x7_2∧Aside0 (sennitref20_wrong.l0 kq l1 x5_2 x6_2 x7_2=some r)∧Aside0 (kq≤kj2)∧Drawn0 w w')
    (case atStart=>exact⟨(t238),(decide ((l0.length:Int) > 2000)),(0),rs_,rs_,rs_,H',⟨Nat.le_refl _⟩,d0_⟩)
    case round =>
     clear H';(try clear c1);(try clear c2);(try clear p2);(try clear c4);(try clear c4b0);(try clear c4b1);(try clear c4b2);(try clear c5);(try clear p2);obtain⟨x5_2,x6_2,x7_2,rfl,rfl,rfl,HA,HK2,⟨m2,rfl⟩⟩:=hrel
     cases gk with
     | zero=>exact absurd HA.out (by simp[sennitref20_wrong.l0])
     | succ k2 =>
      have H:=HA.out;clear HA;(simp only[sennitref20_wrong.l0] at H)
      by_cases c7:x7_2 < (l1.length:Int)
      ·
       (rw[if_pos c7] at H);have c7b0:decide (x7_2 < (l1.length:Int))=true:=decide_eq_true c7;clear c7
       by_cases c8:x5_2=true
       ·
        subst c8;have H1:=H;(rw[if_pos rfl] at H1);clear H;have H:=H1;clear H1
        by_cases c9:0≤x7_2
        ·
         (rw[if_pos c9] at H);have c9b0:decide (0≤x7_2)=true:=decide_eq_true c9;clear c9;replace H:=Option.bind_eq_some_iff.mp H;obtain⟨t240,A100,H⟩:=H;(try dsimp only at H);have A10:=Aside0.mk A100;clear A100
         by_cases c11:x6_2=true
         ·
          subst c11;have H1:=H;(rw[if_pos rfl] at H1);clear H;have H:=H1;clear H1;have H':=Aside0.mk H;clear H;have p239:0≤(x7_2:Int):=dt_;have q239:x7_2 < (l1.length:Int):=dt_;obtain⟨ad239,A239_0,c239_0,e239,hx239_0,hl239_0,hi239_0⟩:=at_L8 HR1.out x7_2 p239 q239;cases e239;have HR239_0:=Aside0.mk hi239_0;have HC239_0:=Aside0.mk hl239_0;clear hi239_0 hl239_0;replace p239:=eq_true p239;replace q239:=eq_true q239;(go_wp2_with (first|(go_at_call 25;(with_reducible refine(sennitref01_May.calls k2 _ _ (rd_L8 l1 x7_2) t240 _ ?side1 ?side2 A10.out).mono ?_);(case side1=>exact pC_ HR239_0.out);(case side2=>exact HC239_0.out);rintro e w' ⟨rfl,⟨nd,rfl⟩⟩)))
          go_roundg k2
          (case measure=>have:=HJ2.out;have:=HK2.out;omega);(case rel=>exact⟨(t240),(true),(wrap64 (x7_2+1)),rs_,rs_,rs_,H',⟨by have:=HJ2.out;have:=HK2.out;omega⟩,d0_⟩)
         ·
          replace c11:=Bool.eq_false_iff.mpr c11;subst c11;have H1:=H;(rw[if_neg (show ¬ (false=true) by decide)] at H1);clear H;have H:=H1;clear H1;have H':=Aside0.mk H;clear H;have p239:0≤(x7_2:Int):=dt_;have q239:x7_2 < (l1.length:Int):=dt_;obtain⟨ad239,A239_0,c239_0,e239,hx239_0,hl239_0,hi239_0⟩:=at_L8 HR1.out x7_2 p239 q239;cases e239;have HR239_0:=Aside0.mk hi239_0;have HC239_0:=Aside0.mk hl239_0;clear hi239_0 hl239_0;replace p239:=eq_true p239;replace q239:=eq_true q239;(go_wp2_with (first|(go_at_call 25;(with_reducible refine(sennitref01_May.calls k2 _ _ (rd_L8 l1 x7_2) t240 _ ?side1 ?side2 A10.out).mono ?_);(case side1=>exact pC_ HR239_0.out);(case side2=>exact HC239_0.out);rintro e w' ⟨rfl,⟨nd,rfl⟩⟩;have p241:0≤(x7_2:Int):=dt_;have q241:x7_2 < (l1.length:Int):=dt_;obtain⟨ad241,A241_0,c241_0,e241,hx241_0,hl241_0,hi241_0⟩:=at_L8 HR1.out x7_2 p241 q241;obtain rfl:ad239=ad241:=(by injection e241);have HR241_0:=Aside0.mk hi241_0;have HC241_0:=Aside0.mk hl241_0;clear hi241_0 hl241_0;replace p241:=eq_true p241;replace q241:=eq_true q241;have ea_:=Option.some.inj (hx239_0.symm.trans hx241_0);injection ea_ with ea_ en_ ec_;subst ea_;subst ec_;clear en_)))
          go_roundg k2
          (case measure=>have:=HJ2.out;have:=HK2.out;omega);(case rel=>exact⟨(t240),(decide (((rd_L8 l1 x7_2).length:Int) > 2000)),(wrap64 (x7_2+1)),rs_,rs_,rs_,H',⟨by have:=HJ2.out;have:=HK2.out;omega⟩,d0_⟩)
        (· exact nx_ c9 H)
       ·
        replace c8:=Bool.eq_false_iff.mpr c8;subst c8;have H1:=H;(rw[if_neg (show ¬ (false=true) by decide)] at H1);clear H;have H:=H1;clear H1
        by_cases c12:x6_2=true
        ·
         subst c12;have H1:=H;(rw[if_pos rfl] at H1);clear H;have H:=H1;clear H1;have H':=Aside0.mk H;clear H;go_wp2
         go_roundg k2
         (case measure=>have:=HJ2.out;have:=HK2.out;omega);(case rel=>exact⟨(false),(true),(wrap64 (x7_2+1)),rs_,rs_,rs_,H',⟨by have:=HJ2.out;have:=HK2.out;omega⟩,d0_⟩)
        ·
         replace c12:=Bool.eq_false_iff.mpr c12;subst c12;have H1:=H;(rw[if_neg (show ¬ (false=true) by decide)] at H1);clear H;have H:=H1;clear H1
         by_cases c13:0≤x7_2
         ·
          (rw[if_pos c13] at H);have c13b0:decide (0≤x7_2)=true:=decide_eq_true c13;clear c13;have H':=Aside0.mk H;clear H;have p242:0≤(x7_2:Int):=dt_;have q242:x7_2 < (l1.length:Int):=dt_;obtain⟨ad242,A242_0,c242_0,e242,hx242_0,hl242_0,hi242_0⟩:=at_L8 HR1.out x7_2 p242 q242;cases e242;have HR242_0:=Aside0.mk hi242_0;have HC242_0:=Aside0.mk hl242_0;clear hi242_0 hl242_0;replace p242:=eq_true p242;replace q242:=eq_true q242;go_wp2
          go_roundg k2
          (case measure=>have:=HJ2.out;have:=HK2.out;omega);(case rel=>exact⟨(false),(decide (((rd_L8 l1 x7_2).length:Int) > 2000)),(wrap64 (x7_2+1)),rs_,rs_,rs_,H',⟨by have:=HJ2.out;have:=HK2.out;omega⟩,d0_⟩)
         (· exact nx_ c13 H)
      ·
       (rw[if_neg c7] at H);have c7b0:decide (x7_2 < (l1.length:Int))=false:=decide_eq_false c7;clear c7
       by_cases c14:x5_2=true
       ·
        subst c14;have H1:=H;(rw[if_pos rfl] at H1);clear H;have H:=H1;clear H1
        by_cases c15:x6_2=true
        (· subst c15;have H1:=H;(rw[if_pos rfl] at H1);clear H;have H:=H1;clear H1;obtain rfl:=Option.some.inj H;go_wp2;go_ret;exact⟨by first|rfl|(simp;done)|(simp[*];done),d0_⟩);(· replace c15:=Bool.eq_false_iff.mpr c15;subst c15;have H1:=H;(rw[if_neg (show ¬ (false=true) by decide)] at H1);clear H;have H:=H1;clear H1;obtain rfl:=Option.some.inj H;go_wp2;go_ret;exact⟨by first|rfl|(simp;done)|(simp[*];done),d0_⟩)
       (· replace c14:=Bool.eq_false_iff.mpr c14;subst c14;have H1:=H;(rw[if_neg (show ¬ (false=true) by decide)] at H1);clear H;have H:=H1;clear H1;obtain rfl:=Option.some.inj H;go_wp2;go_ret;exact⟨by first|rfl|(simp;done)|(simp[*];done),d0_⟩)
def sennitref02_Id.l0:Nat→List ByteArray→ByteArray→Int→Option (List ByteArray × Int)
  | 0,_,_,_=>none
  | k+1,x0,x1,x6=>if x6 < (x0.length:Int) then (if 0≤x6 then (if (rdOf ByteArray.empty x0 x6).toList=x1.toList then (some (x0,x6)) else (sennitref02_Id.l0 k x0 x1 (wrap64 (x6+1)))) else (none)) else ((some (([]:List ByteArray):List ByteArray)).bind fun y246=>(if y246.length+x0.length < 8796093022208 then ((some (y246 ++ x0:List ByteArray)).bind fun y249=>(if y249.length < 8796093022208 then (some ((y249 ++ [x1]),(x0.length:Int))) else (none))) else (none)))
def sennitref02_Id.f (k:Nat) (l0:List ByteArray) (a1:ByteArray):Option (List ByteArray × Int):=sennitref02_Id.l0 k l0 a1 0
theorem sennitref02_Id.calls (k:Nat) (P0_:Nat→Prop) (u9000_:Value) (l0:List ByteArray) (a1:ByteArray) (r1:List ByteArray) (r2:Int) (w0 w:World) (hB:Below w0.heap.size w0 w) (ho0:Kd.R Kd.string 9 w w0.heap.size P0_ u9000_ l0) (h:sennitref02_Id.f k l0 a1=some (r1,r2)) :
    Calls Tryd.prog 76 #[u9000_, .string a1] w fun e w' => ∃ v0_:Value,e = .returned (.tuple #[v0_, .int .i64 r2])∧Kd.R Kd.string 9 w' w0.heap.size (fun k_=>(P0_ k_∨w.heap.size≤k_)) v0_ r1∧Below w0.heap.size w0 w'∧Kept w w' (fun k_=>P0_ k_):=by
 have HO0:=Aside0.mk (show Kd.R Kd.string 9 w w0.heap.size (fun k_=>(P0_ k_∨w.heap.size≤k_)) u9000_ l0 from Kd.R_mono ho0 (fun k_ hk=>(.inl hk)));have HK:=Aside0.mk (Kept.refl w (fun k_=>P0_ k_));have HW0:=Aside0.mk hB.size;have HB:=Aside0.mk hB;clear hB;have H:=h;(rw[sennitref02_Id.f] at H);clear h;have H':=Aside0.mk H;clear H;go_enter Tryd.func76,Tryd.ntmps76;go_wp2
 go_loopg [6] k (fun kq v6 w' => ∃ (x6_1:Int),v6 = .int .i64 x6_1∧Aside0 (sennitref02_Id.l0 kq l0 a1 x6_1=some (r1,r2))∧Aside0 (kq≤k)∧Aside0 (Kd.R Kd.string 9 w' w0.heap.size (fun k_=>(P0_ k_∨w.heap.size≤k_)) u9000_ l0)∧Aside0 (Kept w w' (fun k_=>P0_ k_))∧Aside0 (Below w0.heap.size w0 w'))
 (case atStart=>exact⟨(0),rs_,H',⟨Nat.le_refl _⟩,⟨pR_ HO0.out⟩,⟨by repeat(first|(with_reducible first|exact HK.out|apply Kept.alloc|apply Kept.drewN|apply Kept.drew)|exact HK.out)⟩,⟨bel_⟩⟩)
 case round =>
  clear H';(try clear p2);obtain⟨x6_1,rfl,HA,HK1,HO_0,HK,HB⟩:=hrel
  cases gk with
  | zero=>exact absurd HA.out (by simp[sennitref02_Id.l0])
  | succ k1 =>
   have H:=HA.out;clear HA;(simp only[sennitref02_Id.l0] at H)
   by_cases c3:x6_1 < (l0.length:Int)
   ·
    (rw[if_pos c3] at H);have c3b0:decide (x6_1 < (l0.length:Int))=true:=decide_eq_true c3;clear c3
    by_cases c4:0≤x6_1
    ·
     (rw[if_pos c4] at H);have c4b0:decide (0≤x6_1)=true:=decide_eq_true c4;clear c4
     by_cases c5:(rdOf ByteArray.empty l0 x6_1).toList=a1.toList
     (· (rw[if_pos c5] at H);have c5b0:((rdOf ByteArray.empty l0 x6_1).toList == a1.toList)=true:=beq_iff_eq.mpr c5;have c5b1:((rdOf ByteArray.empty l0 x6_1).toList != a1.toList)=false:=bne_eq_false_iff_eq.mpr c5;clear c5;(simp only[Option.some.injEq,Prod.mk.injEq] at H);obtain⟨rfl,rfl⟩:=H;obtain⟨Ao6,co6,eo6⟩:=Kd.R_slice HO_0.out;subst eo6;have p245:0≤(x6_1:Int):=dt_;have q245:x6_1 < (l0.length:Int):=dt_;obtain⟨ad245,e245,hx245_0⟩:=Kd.at_string (Kd.R_reads' HO_0.out).2.2 x6_1 p245 q245;cases e245;replace p245:=eq_true p245;replace q245:=eq_true q245;go_wp2;go_ret2;exact⟨_,ew_,by(with_reducible repeat(first|apply Kd.R_alloc|apply Kd.R_drewN|apply Kd.R_drew));exact HO_0.out,bel_,by repeat(first|(with_reducible first|exact HK.out|apply Kept.alloc|apply Kept.drewN|apply Kept.drew)|exact HK.out)⟩)
     ·
      (rw[if_neg c5] at H);have c5b0:((rdOf ByteArray.empty l0 x6_1).toList == a1.toList)=false:=beq_eq_false_iff_ne.mpr c5;have c5b1:((rdOf ByteArray.empty l0 x6_1).toList != a1.toList)=true:=bne_iff_ne.mpr c5;have H':=Aside0.mk H;clear H;obtain⟨Ao7,co7,eo7⟩:=Kd.R_slice HO_0.out;subst eo7;have p245:0≤(x6_1:Int):=dt_;have q245:x6_1 < (l0.length:Int):=dt_;obtain⟨ad245,e245,hx245_0⟩:=Kd.at_string (Kd.R_reads' HO_0.out).2.2 x6_1 p245 q245;cases e245;replace p245:=eq_true p245;replace q245:=eq_true q245;go_wp2
      go_roundg k1
      (case measure=>have:=HK1.out;omega);(case rel=>exact⟨(wrap64 (x6_1+1)),rs_,H',⟨by have:=HK1.out;omega⟩,⟨pR_ HO_0.out⟩,⟨by repeat(first|(with_reducible first|exact HK.out|apply Kept.alloc|apply Kept.drewN|apply Kept.drew)|exact HK.out)⟩,⟨bel_⟩⟩)
    (· exact nx_ c4 H)
   ·
    (rw[if_neg c3] at H);have c3b0:decide (x6_1 < (l0.length:Int))=false:=decide_eq_false c3;clear c3;obtain⟨y246,hy246⟩ : ∃ y_:List ByteArray,y_=(([]:List ByteArray)):=⟨_,rfl⟩;(replace H:(if y246.length+l0.length < 8796093022208 then ((some (y246 ++ l0:List ByteArray)).bind fun y249=>(if y249.length < 8796093022208 then (some ((y249 ++ [a1]),(l0.length:Int))) else (none))) else (none))=some (r1,r2):=by first|(rw[hy246];with_reducible exact H)|(have H2_:=(Option.bind_some _ _).symm.trans H;rw[hy246];with_reducible exact H2_)|(have H2_:=(Option.bind_some _ _).symm.trans H;with_reducible exact H2_)|with_reducible exact H|(rw[hy246];exact H)|exact H);have Ny246:=Aside0.mk hy246;clear hy246
    by_cases c8:y246.length+l0.length < 8796093022208
    ·
     (rw[if_pos c8] at H);have LMc8:=Aside0.mk c8;clear c8;obtain⟨y249,hy249⟩ : ∃ y_:List ByteArray,y_=(y246 ++ l0):=⟨_,rfl⟩;(replace H:(if y249.length < 8796093022208 then (some ((y249 ++ [a1]),(l0.length:Int))) else (none))=some (r1,r2):=by first|(rw[hy249];with_reducible exact H)|(have H2_:=(Option.bind_some _ _).symm.trans H;rw[hy249];with_reducible exact H2_)|(have H2_:=(Option.bind_some _ _).symm.trans H;with_reducible exact H2_)|with_reducible exact H|(rw[hy249];exact H)|exact H);have Ny249:=Aside0.mk hy249;clear hy249
     by_cases c9:y249.length < 8796093022208
     (· (rw[if_pos c9] at H);have LMc9:=Aside0.mk c9;clear c9;obtain⟨y252,hy252⟩ : ∃ y_:List ByteArray,y_=(y249 ++ [a1]):=⟨_,rfl⟩;(replace H:(some (y252,(l0.length:Int)))=some (r1,r2):=by first|(rw[hy252];with_reducible exact H)|(have H2_:=(Option.bind_some _ _).symm.trans H;rw[hy252];with_reducible exact H2_)|(have H2_:=(Option.bind_some _ _).symm.trans H;with_reducible exact H2_)|with_reducible exact H|(rw[hy252];exact H)|exact H);have Ny252:=Aside0.mk hy252;clear hy252;(simp only[Option.some.injEq,Prod.mk.injEq] at H);obtain⟨rfl,rfl⟩:=H;obtain⟨Ao10,co10,eo10⟩:=Kd.R_slice HO_0.out;subst eo10;(go_wp2_with (first|((with_reducible refine gate_dst (N:=22) rfl ?_);refine Kd.R_lit Kd.string _ 9 ?hg (N:=22) ?hd (xs:=([]:List ByteArray)) (inner:=[]) (ok:=fun _=>True) (okp:=fun _=>True) ?hr ?hp (fun _ hk=>hk) trivial (Below.refl _ _) (Nat.le_refl _) (by simp) ?_;(case hd=>rfl);(case hg=>rfl);(case hr=>first|(go_simp;done)|(go_simp;rfl));(case hp=>exact(Reps.none _ _));intro v247 w11 ho12 hb hg_ hnew_;clear hg_ hnew_;(first|rw[← Ny246.out] at ho12|(simp only[Int.reduceToNat] at ho12;rw[← Ny246.out] at ho12));have HO248:=Aside0.mk (Kd.R_lower (Kd.R_new' (Kd.R_newM (M:=fun k_=>(P0_ k_∨w.heap.size≤k_)) ho12 (by first|exact HK.out.1|exact(show Kept w _ (fun k_=>P0_ k_) from by repeat(first|(with_reducible first|exact HK.out|apply Kept.alloc|apply Kept.drewN|apply Kept.drew)|exact HK.out)).1) (fun k_ h_ => .inr h_)) (Kd.R_lt (pR_ HO_0.out))) (bsz bel_));replace HO_0:=Aside0.mk (Kd.R_elder' (pR_ HO_0.out) (Kd.R_base ho12) hb);replace HK:=Aside0.mk (Kept.below (S:=(fun k_=>P0_ k_)) (by repeat(first|(with_reducible first|exact HK.out|apply Kept.alloc|apply Kept.drewN|apply Kept.drew)|exact HK.out)) hb);replace HB:=Aside0.mk (bst bel_ hb);clear hb ho12)|((with_reducible refine gate_builtin (b := .append) (xs:=#[.tmp 22, .tmp 23]) rfl ?_);at_builtin;refine Kd.R_append_rows Kd.string (w0:=w0) w0.heap.size rfl (.tmp 22) (.tmp 23) 23 9 (.string ⟨#[]⟩) 16 rfl Tryd.underlying23 info9 rfl (by decide) (by omega) v247 y246 l0 _ _ _ (fun k_=>(P0_ k_∨w.heap.size≤k_)∧some k_≠(.slice Ao10 l0.length co10:Value).ownBlock) (fun _=>False) rfl rfl ?aO ?aR (fun _ _ h=>h) (fun _ h=>h.elim) ?aF ?aB ?aS ?aL ?_;(case aR=>repeat(first|exact(Kd.R_reads' HO_0.out).2.2|(with_reducible refine Kd.C_alloc ?_ _)|(with_reducible refine Kd.C_drewN ?_ _)|(with_reducible refine Kd.C_drew ?_)));(case aB=>exact bel_);(case aF=>exact(fun k_ hk=>⟨(.inr (Nat.le_trans (by first|exact HK.out.1|exact(show Kept w _ (fun k_=>P0_ k_) from by repeat(first|(with_reducible first|exact HK.out|apply Kept.alloc|apply Kept.drewN|apply Kept.drew)|exact HK.out)).1) hk)),Kd.fresh' (Kd.R_lt (pR_ HO_0.out)) k_ hk⟩));(case aO=>exact(Kd.R_mono (pRm_ HO248.out) (fun _ hk=>⟨hk.1.1,hk.2⟩)));(case aS=>exact(bsz bel_));(case aL=>have:=LMc8.out;omega);intro v250 w13 ho hb hg hat;rw[← Ny249.out] at ho;replace HO_0:=Aside0.mk (Kd.R_after (ok:=(fun k_=>(P0_ k_∨w.heap.size≤k_))) (pR_ HO_0.out) hg hat);replace HB:=Aside0.mk (hb);replace HK:=Aside0.mk (Kept.of_grown (S:=(fun k_=>P0_ k_)) hg (by repeat(first|(with_reducible first|exact HK.out|apply Kept.alloc|apply Kept.drewN|apply Kept.drew)|exact HK.out)) (fun k_ e_=>(HO248.out.1 k_ e_).1.1));have HO251:=Aside0.mk (ho);clear HO248;clear ho hb hg hat)|((with_reducible refine gate_builtin (b := .append) (xs:=#[.tmp 25, .tmp 27]) rfl ?_);at_builtin;refine Kd.R_append Kd.string (w0:=w0) w0.heap.size rfl (.tmp 25) (.tmp 27) 23 9 (.string ⟨#[]⟩) 16 rfl Tryd.underlying23 info9 rfl (by decide) (by omega) v250 y249 a1 [.string a1] (fun k_=>(P0_ k_∨w.heap.size≤k_)∧some k_≠(.slice Ao10 l0.length co10:Value).ownBlock) (fun _=>False) rfl rfl ?aP (fun _ hk=>hk.elim) ?aF ?aO ?aB ?aS ?aL ?_;(case aP=>exact rfl);(case aB=>exact bel_);(case aF=>exact(fun k_ hk=>⟨(.inr (Nat.le_trans (by first|exact HK.out.1|exact(show Kept w _ (fun k_=>P0_ k_) from by repeat(first|(with_reducible first|exact HK.out|apply Kept.alloc|apply Kept.drewN|apply Kept.drew)|exact HK.out)).1) hk)),Kd.fresh' (Kd.R_lt (pR_ HO_0.out)) k_ hk⟩));(case aO=>exact(pR_ HO251.out));(case aS=>exact(bsz bel_));(case aL=>have:=LMc9.out;omega);intro v253 w14 ho hb hg hat;rw[← Ny252.out] at ho;replace HO_0:=Aside0.mk (Kd.R_after (ok:=(fun k_=>(P0_ k_∨w.heap.size≤k_))) (pR_ HO_0.out) hg hat);replace HB:=Aside0.mk (hb);replace HK:=Aside0.mk (Kept.of_grown (S:=(fun k_=>P0_ k_)) hg (by repeat(first|(with_reducible first|exact HK.out|apply Kept.alloc|apply Kept.drewN|apply Kept.drew)|exact HK.out)) (fun k_ e_=>(HO251.out.1 k_ e_).1));have HO254:=Aside0.mk (ho);clear HO251;clear ho hb hg hat)));go_ret2;exact⟨_,ew_,Kd.R_mono (pRm_ HO254.out) (fun _ hk=>hk.1),bel_,by repeat(first|(with_reducible first|exact HK.out|apply Kept.alloc|apply Kept.drewN|apply Kept.drew)|exact HK.out)⟩)
     (· exact nx_ c9 H)
    (· exact nx_ c8 H)
mutual
def sennitref02_All.l0:Nat→List (List ByteArray)→List (List Int)→List ByteArray→Int→Option ((List (List Int)))
  | 0,_,_,_,_=>none
  | k+1,x0,x3,x4,x5=>if x5 < (x0.length:Int) then (sennitref02_All.l1 k x0 x3 x4 x5 ([]:List Int) 0) else (some x3)
def sennitref02_All.l1:Nat→List (List ByteArray)→List (List Int)→List ByteArray→Int→List Int→Int→Option ((List (List Int)))
  | 0,_,_,_,_,_,_=>none
  | k+1,x0,x3,x4,x5,x6,x7=>if 0≤x5 then (if x5 < (x0.length:Int) then (if x7 < ((rd_L8 x0 x5).length:Int) then (if 0≤x7 then ((sennitref02_Id.f k x4 (rdOf ByteArray.empty (rd_L8 x0 x5) x7)).bind fun bt258=>(if x6.length < 17592186044416 then (sennitref02_All.l1 k x0 x3 bt258.1 x5 (x6 ++ [bt258.2]) (wrap64 (x7+1))) else (none))) else (none)) else (if x3.length < 5864062014805 then (sennitref02_All.l0 k x0 (x3 ++ [x6]) x4 (wrap64 (x5+1))) else (none))) else (none)) else (none)
end
def sennitref02_All.f (k:Nat) (l0:List (List ByteArray)):Option ((List (List Int))):=sennitref02_All.l0 k l0 ([]:List (List Int)) ([]:List ByteArray) 0
theorem sennitref02_All.calls (k:Nat) (A0:Option Addr) (c0:Nat) (l0:List (List ByteArray)) (r:List (List Int)) (w:World) (hr0:Kd.C (Kd.slice 9 Kd.string) w A0 l0.length l0) (hc0:l0.length≤c0) (h:sennitref02_All.f k l0=some r) :
    Calls Tryd.prog 46 #[.slice A0 l0.length c0] w fun e w' => ∃ v0_:Value,e = .returned (v0_)∧Kd.S (Kd.slice 3 (Kd.int .i64)) 76 w' w.heap.size (fun _=>True) v0_ r∧Below w.heap.size w w':=by
 have HR0:=Aside0.mk hr0;have HC0:=Aside0.mk hc0;clear hr0 hc0;have HB:=Aside0.mk (Below.refl w.heap.size w);have H:=h;(rw[sennitref02_All.f] at H);clear h;have H':=Aside0.mk H;clear H;go_enter Tryd.func46,Tryd.ntmps46;go_wp2
 go_loopg [3,4,5] k (fun kq v3 v4 v5 w' => ∃ (x3_1:List (List Int)) (x4_1:List ByteArray) (x5_1:Int),v5 = .int .i64 x5_1∧Aside0 (sennitref02_All.l0 kq l0 x3_1 x4_1 x5_1=some r)∧Aside0 (kq≤k)∧Aside0 (Kd.S (Kd.slice 3 (Kd.int .i64)) 76 w' w.heap.size (fun _=>True) v3 x3_1)∧Aside0 (Kd.R Kd.string 9 w' w.heap.size (fun _=>True) v4 x4_1)∧Aside0 (Below w.heap.size w w'))
 (case atStart=>exact⟨(([]:List (List Int))),(([]:List ByteArray)),(0),rs_,H',⟨Nat.le_refl _⟩,⟨by first|exact Kd.S_nil _ _ _ _ _|exact Kd.N_nil _ _ _ _ _|exact Kd.V_nil _ _ _ _ _|exact Kd.Q_nil _ _ _ _ _|exact Kd.R_nil _ _ _ _ _⟩,⟨by first|exact Kd.R_nil _ _ _ _ _|exact Kd.N_nil _ _ _ _ _|exact Kd.V_nil _ _ _ _ _|exact Kd.Q_nil _ _ _ _ _|exact Kd.S_nil _ _ _ _ _⟩,⟨bel_⟩⟩)
 case round =>
  clear H';obtain⟨x3_1,x4_1,x5_1,rfl,HA,HK1,HO_3,HO_4,HB⟩:=hrel
  cases gk with
  | zero=>exact absurd HA.out (by simp[sennitref02_All.l0])
  | succ k1 =>
   have H:=HA.out;clear HA;(simp only[sennitref02_All.l0] at H)
   by_cases c2:x5_1 < (l0.length:Int)
   ·
    (rw[if_pos c2] at H);have c2b0:decide (x5_1 < (l0.length:Int))=true:=decide_eq_true c2;clear c2;have H':=Aside0.mk H;clear H;go_wp2
    go_loopg [4,6,7] k1 (fun kq v4 v6 v7 w' => ∃ (x4_2:List ByteArray) (x6_2:List Int) (x7_2:Int),v7 = .int .i64 x7_2∧Aside0 (sennitref02_All.l1 kq l0 x3_1 x4_2 x5_1 x6_2 x7_2=some r)∧Aside0 (kq≤k1)∧Aside0 (Kd.S (Kd.slice 3 (Kd.int .i64)) 76 w' w.heap.size (fun k_=>some k_≠(v6:Value).ownBlock) u3 x3_1)∧Aside0 (Kd.R Kd.string 9 w' w.heap.size (fun _=>True) v4 x4_2)∧Aside0 (Kd.R (Kd.int .i64) 3 w' w.heap.size (fun _=>True) v6 x6_2)∧Aside0 (Below w.heap.size w w'))
    (case atStart=>exact⟨(x4_1),(([]:List Int)),(0),rs_,H',⟨Nat.le_refl _⟩,⟨Kd.S_mono (pS_ HO_3.out) (fun _ hk=>(by simp[Value.ownBlock]))⟩,⟨pR_ HO_4.out⟩,⟨by first|exact Kd.R_nil _ _ _ _ _|exact Kd.N_nil _ _ _ _ _|exact Kd.V_nil _ _ _ _ _|exact Kd.Q_nil _ _ _ _ _|exact Kd.S_nil _ _ _ _ _⟩,⟨bel_⟩⟩)
    case round =>
     clear H';(try clear c2);(try clear c2b0);(try clear p2);obtain⟨x4_2,x6_2,x7_2,rfl,HA,HK2,HO_3,HO_4,HO_6,HB⟩:=hrel
     cases gk with
     | zero=>exact absurd HA.out (by simp[sennitref02_All.l1])
     | succ k2 =>
      have H:=HA.out;clear HA;(simp only[sennitref02_All.l1] at H)
      by_cases c3:0≤x5_1
      ·
       (rw[if_pos c3] at H);have c3b0:decide (0≤x5_1)=true:=decide_eq_true c3;clear c3
       by_cases c4:x5_1 < (l0.length:Int)
       ·
        (rw[if_pos c4] at H);have c4b0:decide (x5_1 < (l0.length:Int))=true:=decide_eq_true c4;clear c4
        by_cases c5:x7_2 < ((rd_L8 l0 x5_1).length:Int)
        ·
         (rw[if_pos c5] at H);have c5b0:decide (x7_2 < ((rd_L8 l0 x5_1).length:Int))=true:=decide_eq_true c5;clear c5
         by_cases c6:0≤x7_2
         ·
          (rw[if_pos c6] at H);have c6b0:decide (0≤x7_2)=true:=decide_eq_true c6;clear c6;replace H:=Option.bind_eq_some_iff.mp H;obtain⟨⟨t258,t261⟩,A70,H⟩:=H;(try dsimp only at H);have A7:=Aside0.mk A70;clear A70
          by_cases c8:x6_2.length < 17592186044416
          ·
           (rw[if_pos c8] at H);have LMc8:=Aside0.mk c8;clear c8;obtain⟨y262,hy262⟩ : ∃ y_:List Int,y_=(x6_2 ++ [t261]):=⟨_,rfl⟩;((try rw[Option.bind_some] at H);rw[← hy262] at H);have Ny262:=Aside0.mk hy262;clear hy262;have H':=Aside0.mk H;clear H;have p255:0≤(x5_1:Int):=dt_;have q255:x5_1 < (l0.length:Int):=dt_;obtain⟨ad255,A255_0,c255_0,e255,hx255_0,hl255_0,hi255_0⟩:=at_L8 HR0.out x5_1 p255 q255;cases e255;replace hx255_0:=(HB.out.cell (World.block_lt_of_cell? w _ hx255_0)).trans hx255_0;have HR255_0:=Aside0.mk hi255_0;have HC255_0:=Aside0.mk hl255_0;clear hi255_0 hl255_0;replace p255:=eq_true p255;replace q255:=eq_true q255;have p256:0≤(x5_1:Int):=dt_;have q256:x5_1 < (l0.length:Int):=dt_;obtain⟨ad256,A256_0,c256_0,e256,hx256_0,hl256_0,hi256_0⟩:=at_L8 HR0.out x5_1 p256 q256;obtain rfl:ad255=ad256:=(by injection e256);replace hx256_0:=(HB.out.cell (World.block_lt_of_cell? w _ hx256_0)).trans hx256_0;have HR256_0:=Aside0.mk hi256_0;have HC256_0:=Aside0.mk hl256_0;clear hi256_0 hl256_0;replace p256:=eq_true p256;replace q256:=eq_true q256;have ea_:=Option.some.inj (hx255_0.symm.trans hx256_0);(injection ea_ with ea_ en_ ec_);subst ea_;subst ec_;clear en_;have p257:0≤(x7_2:Int):=dt_;have q257:x7_2 < ((rd_L8 l0 x5_1).length:Int):=dt_;obtain⟨ad257,e257,hx257_0⟩:=Kd.at_string HR256_0.out x7_2 p257 q257;cases e257;replace hx257_0:=(HB.out.cell (World.block_lt_of_cell? w _ hx257_0)).trans hx257_0;replace p257:=eq_true p257;replace q257:=eq_true q257;obtain⟨Ao9,co9,eo9⟩:=Kd.R_slice HO_4.out;subst eo9;(go_wp2_with (first|((with_reducible refine gate_callee (f:=76) rfl ?_);refine goesL_ (some 34) rfl rfl Tryd.func76 (by kernel_rfl) rfl #[.slice Ao9 x4_2.length co9, .string (rdOf ByteArray.empty (rd_L8 l0 x5_1) x7_2)] rfl am_ ?_;(with_reducible refine(sennitref02_Id.calls k2 (fun k_=>some k_=(.slice Ao9 x4_2.length co9:Value).ownBlock) (.slice Ao9 x4_2.length co9) x4_2 (rdOf ByteArray.empty (rd_L8 l0 x5_1) x7_2) t258 t261 w _ ?side1 ?side2 A7.out).mono ?_);(case side1=>repeat(first|(with_reducible first|exact HB.out|apply below_alloc|apply pw_below_drewN|apply below_drew1)|exact HB.out));(case side2=>exact Kd.R_tight rfl HO_4.out);rintro e w10 ⟨v259,rfl,ho0,hb,hkp⟩;refine⟨_,rfl,?_⟩;replace HO_3:=Aside0.mk (Kd.S_mono (ok':=fun k_=>some k_≠(u6:Value).ownBlock) (Kd.S_keptB ((Kd.S_apart' HO_3.out (Kd.R_typed HO_4.out) (by decide))) hkp (fun k_ hk_ hs_=>(hk_.2) hs_)) (fun k_ hk_=>hk_.1.1));replace HO_6:=Aside0.mk (Kd.R_mono (ok':=fun k_=>True) (Kd.R_keptB ((Kd.R_apart' HO_6.out (Kd.R_typed HO_4.out) (by decide))) hkp (fun k_ hk_ hs_=>(hk_.2) hs_)) (fun k_ hk_=>trivial));have HO260:=Aside0.mk (Kd.R_mono (ok':=fun k_=>True) ho0 (fun k_ hk_=>trivial));replace HB:=Aside0.mk (hb);clear HO_4;(try clear hb);(try clear hkp);(try clear ho0))|((with_reducible refine gate_builtin (b := .append) (xs:=#[.tmp 38, .tmp 40]) rfl ?_);at_builtin;refine Kd.R_append (Kd.int .i64) (w0:=w) w.heap.size rfl (.tmp 38) (.tmp 40) 76 3 (.int .i64 0) 8 rfl Tryd.underlying76 info3 rfl (by decide) (by omega) u6 x6_2 t261 [.int .i64 t261] (fun _=>True) (fun _=>False) rfl rfl ?aP (fun _ hk=>hk.elim) ?aF ?aO ?aB ?aS ?aL ?_;(case aP=>exact rfl);(case aB=>exact bel_);(case aF=>exact(fun _ _=>trivial));(case aO=>exact(pR_ HO_6.out));(case aS=>exact(bsz bel_));(case aL=>have:=LMc8.out;omega);intro v263 w11 ho hb hg hat;rw[← Ny262.out] at ho;replace HO_3:=Aside0.mk (Kd.S_after (ok:=(fun _=>True)) (Kd.S_mono (pS_ HO_3.out) (fun _ hk=>⟨trivial,hk⟩)) hg hat);replace HO260:=Aside0.mk (Kd.R_over' (pR_ HO260.out) (Kd.R_typed (pR_ HO_6.out)) (by decide) hg);replace HB:=Aside0.mk (hb);have HO264:=Aside0.mk (ho);clear HO_6;clear ho hb hg hat)))
           go_roundg k2
           (case measure=>have:=HK1.out;have:=HK2.out;omega);(case rel=>exact⟨(t258),(y262),(wrap64 (x7_2+1)),rs_,H',⟨by have:=HK1.out;have:=HK2.out;omega⟩,⟨Kd.S_mono (pS_ HO_3.out) (fun _ hk=>hk.2)⟩,⟨pR_ HO260.out⟩,⟨pR_ HO264.out⟩,⟨bel_⟩⟩)
          (· exact nx_ c8 H)
         (· exact nx_ c6 H)
        ·
         (rw[if_neg c5] at H);have c5b0:decide (x7_2 < ((rd_L8 l0 x5_1).length:Int))=false:=decide_eq_false c5;clear c5
         by_cases c12:x3_1.length < 5864062014805
         ·
          (rw[if_pos c12] at H);have LMc12:=Aside0.mk c12;clear c12;obtain⟨y265,hy265⟩ : ∃ y_:List (List Int),y_=(x3_1 ++ [x6_2]):=⟨_,rfl⟩;((try rw[Option.bind_some] at H);rw[← hy265] at H);have Ny265:=Aside0.mk hy265;clear hy265;have H':=Aside0.mk H;clear H;have p255:0≤(x5_1:Int):=dt_;have q255:x5_1 < (l0.length:Int):=dt_;obtain⟨ad255,A255_0,c255_0,e255,hx255_0,hl255_0,hi255_0⟩:=at_L8 HR0.out x5_1 p255 q255;cases e255;replace hx255_0:=(HB.out.cell (World.block_lt_of_cell? w _ hx255_0)).trans hx255_0;have HR255_0:=Aside0.mk hi255_0;have HC255_0:=Aside0.mk hl255_0;clear hi255_0 hl255_0;replace p255:=eq_true p255;replace q255:=eq_true q255;obtain⟨Ao14,co14,eo14⟩:=Kd.R_slice HO_6.out;subst eo14;(go_wp2_with (first|((with_reducible refine gate_builtin (b := .append) (xs:=#[.tmp 42, .tmp 44]) rfl ?_);at_builtin;refine Kd.S_append (Kd.slice 3 (Kd.int .i64)) (w0:=w) w.heap.size rfl (.tmp 42) (.tmp 44) 74 76 (.slice none 0 0) 24 rfl Tryd.underlying74 info76 rfl (by decide) (by omega) u3 x3_1 x6_2 [.slice Ao14 x6_2.length co14] (fun _=>True) (fun k_=>some k_=(.slice Ao14 x6_2.length co14:Value).ownBlock) rfl rfl ?aP (fun k_ hk_=>((Kd.R_mono (ok':=fun k_=>((fun _=>True)) k_∧some k_≠(u3:Value).ownBlock) (Kd.R_apart' (HO_6.out) (Kd.S_typed HO_3.out) (by decide)) (fun k_ hk=>⟨trivial,hk.2⟩))).1 k_ hk_.symm) ?aF ?aO ?aB ?aS ?aL ?_;(case aP=>exact Kd.M_row (Kd.R_mono (Kd.R_tight rfl (Kd.R_mono (ok':=fun k_=>((fun _=>True)) k_∧some k_≠(u3:Value).ownBlock) (Kd.R_apart' (HO_6.out) (Kd.S_typed HO_3.out) (by decide)) (fun k_ hk=>⟨trivial,hk.2⟩))) (fun _ h_=>h_)));(case aB=>exact bel_);(case aF=>exact(fun _ _=>trivial));(case aO=>exact(Kd.S_mono (pS_ HO_3.out) (fun k_ hk=>⟨trivial,fun e_=>hk e_⟩)));(case aS=>exact(bsz bel_));(case aL=>have:=LMc12.out;omega);intro v266 w13 ho hb hg hat;rw[← Ny265.out] at ho;replace HO_4:=Aside0.mk (Kd.R_over' (pR_ HO_4.out) (Kd.S_typed (pS_ HO_3.out)) (by decide) hg);replace HB:=Aside0.mk (hb);have HO267:=Aside0.mk (ho);clear HO_3;clear HO_6;clear ho hb hg hat)))
          go_roundg k2
          (case measure=>have:=HK1.out;have:=HK2.out;omega);(case rel=>exact⟨(y265),(x4_2),(wrap64 (x5_1+1)),rs_,H',⟨by have:=HK1.out;have:=HK2.out;omega⟩,⟨pS_ HO267.out⟩,⟨pR_ HO_4.out⟩,⟨bel_⟩⟩)
         (· exact nx_ c12 H)
       (· exact nx_ c4 H)
      (· exact nx_ c3 H)
   (· (rw[if_neg c2] at H);have c2b0:decide (x5_1 < (l0.length:Int))=false:=decide_eq_false c2;clear c2;obtain rfl:=Option.some.inj H;go_wp2;go_ret;exact⟨_,ew_,by(with_reducible repeat(first|apply Kd.S_alloc|apply Kd.S_drewN|apply Kd.S_drew));exact HO_3.out,bel_⟩)
mutual
def sennitref03_rest.l0:Nat→List Int→List Int→Int→List Int→Int→Option (List Int)
  | 0,_,_,_,_,_=>none
  | k+1,x0,x1,x5,x6,x7=>if x7 ≥ 0 then (sennitref03_rest.l1 k x0 x1 x5 x6 x7 (wrap64 ((x1.length:Int) - 1))) else (some x6)
def sennitref03_rest.l1:Nat→List Int→List Int→Int→List Int→Int→Int→Option (List Int)
  | 0,_,_,_,_,_,_=>none
  | k+1,x0,x1,x5,x6,x7,x8=>if x8 ≥ 0 then (if 0≤(wrap64 ((wrap64 ((wrap64 (x7+1)) * x5))+x8)) then (if (wrap64 ((wrap64 ((wrap64 (x7+1)) * x5))+x8)) < (x6.length:Int) then (if 0≤(wrap64 ((wrap64 ((wrap64 (x7 * x5))+x8))+1)) then (if (wrap64 ((wrap64 ((wrap64 (x7 * x5))+x8))+1)) < (x6.length:Int) then (if 0≤x7 then (if x7 < (x0.length:Int) then (if 0≤x8 then (if x8 < (x1.length:Int) then (if (rd x0 x7)=(rd x1 x8) then (if 0≤(wrap64 ((wrap64 ((wrap64 ((wrap64 (x7+1)) * x5))+x8))+1)) then (if (wrap64 ((wrap64 ((wrap64 ((wrap64 (x7+1)) * x5))+x8))+1)) < (x6.length:Int) then (if 0≤(wrap64 ((wrap64 (x7 * x5))+x8)) then (if (wrap64 ((wrap64 (x7 * x5))+x8)) < (x6.length:Int) then (sennitref03_rest.l1 k x0 x1 x5 (x6.set ((wrap64 ((wrap64 (x7 * x5))+x8)):Int).toNat (mx (mx (rd x6 (wrap64 ((wrap64 ((wrap64 (x7+1)) * x5))+x8))) (rd x6 (wrap64 ((wrap64 ((wrap64 (x7 * x5))+x8))+1)))) (wrap64 ((rd x6 (wrap64 ((wrap64 ((wrap64 ((wrap64 (x7+1)) * x5))+x8))+1)))+1)))) x7 (wrap64 (x8 - 1))) else (none)) else (none)) else (none)) else (none)) else (if 0≤(wrap64 ((wrap64 (x7 * x5))+x8)) then (if (wrap64 ((wrap64 (x7 * x5))+x8)) < (x6.length:Int) then (sennitref03_rest.l1 k x0 x1 x5 (x6.set ((wrap64 ((wrap64 (x7 * x5))+x8)):Int).toNat (mx (rd x6 (wrap64 ((wrap64 ((wrap64 (x7+1)) * x5))+x8))) (rd x6 (wrap64 ((wrap64 ((wrap64 (x7 * x5))+x8))+1))))) x7 (wrap64 (x8 - 1))) else (none)) else (none))) else (none)) else (none)) else (none)) else (none)) else (none)) else (none)) else (none)) else (none)) else (sennitref03_rest.l0 k x0 x1 x5 x6 (wrap64 (x7 - 1)))
end
def sennitref03_rest.f (k:Nat) (l0:List Int) (l1:List Int):Option (List Int):=if 0≤(wrap64 ((wrap64 ((l0.length:Int)+1)) * (wrap64 ((l1.length:Int)+1)))) then (if (wrap64 ((wrap64 ((l0.length:Int)+1)) * (wrap64 ((l1.length:Int)+1))):Int).toNat≤35184372088832 then (sennitref03_rest.l0 k l0 l1 (wrap64 ((l1.length:Int)+1)) (List.replicate (wrap64 ((wrap64 ((l0.length:Int)+1)) * (wrap64 ((l1.length:Int)+1))):Int).toNat 0) (wrap64 ((l0.length:Int) - 1))) else (none)) else (none)
theorem sennitref03_rest.calls (k:Nat) (A0:Option Addr) (c0:Nat) (l0:List Int) (A1:Option Addr) (c1:Nat) (l1:List Int) (r:List Int) (w:World) (hr0:Kd.C (Kd.int .i64) w A0 l0.length l0) (hc0:l0.length≤c0) (hr1:Kd.C (Kd.int .i64) w A1 l1.length l1) (hc1:l1.length≤c1) (h:sennitref03_rest.f k l0 l1=some r) :
    Calls Tryd.prog 77 #[.slice A0 l0.length c0, .slice A1 l1.length c1] w fun e w' => ∃ v0_:Value,e = .returned (v0_)∧Kd.R (Kd.int .i64) 3 w' w.heap.size (fun _=>True) v0_ r∧Below w.heap.size w w':=by
 have HR0:=Aside0.mk hr0;have HC0:=Aside0.mk hc0;clear hr0 hc0;have HR1:=Aside0.mk hr1;have HC1:=Aside0.mk hc1;clear hr1 hc1;have HB:=Aside0.mk (Below.refl w.heap.size w);have H:=h;(rw[sennitref03_rest.f] at H);clear h;obtain⟨ji3,hji3⟩ : ∃ j_:Int,(wrap64 ((wrap64 ((l0.length:Int)+1)) * (wrap64 ((l1.length:Int)+1))))=j_:=⟨_,rfl⟩;(first|rw[hji3] at H|simp only[hji3] at H);have hji3w:(IntKind.i64.wrap ((wrap64 ((l0.length:Int)+1)) * (wrap64 ((l1.length:Int)+1))))=ji3:=(i64_w _).trans hji3
 by_cases c4:0≤(ji3)
 ·
  (rw[if_pos c4] at H);have c4b0:=eq_true c4;have c4b1:decide (0≤(ji3))=true:=decide_eq_true c4;clear c4
  by_cases c5:(ji3:Int).toNat≤35184372088832
  ·
   (rw[if_pos c5] at H);have c5b0:=eq_true c5;have c5b1:decide ((ji3:Int).toNat≤35184372088832)=true:=decide_eq_true c5;clear c5;obtain⟨y268,hy268⟩ : ∃ y_:List Int,y_=(List.replicate (ji3:Int).toNat 0):=⟨_,rfl⟩;((try rw[Option.bind_some] at H);rw[← hy268] at H);have Ny268:=Aside0.mk hy268;clear hy268;have H':=Aside0.mk H;clear H;go_enter Tryd.func77,Tryd.ntmps77;(go_wp2_with (first|((with_reducible refine gate_dst (N:=18) rfl ?_);refine Kd.R_make (Kd.int .i64) _ 3 rfl (N:=18) rfl 76 _ _ rfl ji3 rfl rfl Tryd.underlying76 (.int .i64 0) 8 info3 rfl (by decide) (by omega) 0 (ok:=fun _=>True) (okp:=fun _=>True) rfl (fun _ hk=>hk) trivial (dt_) (Nat.le_trans (Nat.mul_le_mul_right _ (dt_:ji3.toNat≤35184372088832)) (by omega)) (Below.refl _ _) (Nat.le_refl _) ?_;intro v269 w6 ho7 hb hg_ hnew_;clear hg_ hnew_;(first|rw[← Ny268.out] at ho7|(simp only[Int.reduceToNat] at ho7;rw[← Ny268.out] at ho7));have HO270:=Aside0.mk (Kd.R_lower ho7 (bsz bel_));replace HB:=Aside0.mk (bst bel_ hb);clear hb ho7)));have hW64_ : ∀ x:Int,IntKind.i64.wrap x=wrap64 x:=i64_w;(repeat(go_quiet (first|((with_reducible refine gate_dst (N:=18) rfl ?_);refine Kd.R_make (Kd.int .i64) _ 3 rfl (N:=18) rfl 76 _ _ rfl ji3 rfl rfl Tryd.underlying76 (.int .i64 0) 8 info3 rfl (by decide) (by omega) 0 (ok:=fun _=>True) (okp:=fun _=>True) rfl (fun _ hk=>hk) trivial (dt_) (Nat.le_trans (Nat.mul_le_mul_right _ (dt_:ji3.toNat≤35184372088832)) (by omega)) (Below.refl _ _) (Nat.le_refl _) ?_;intro v269 w6 ho7 hb hg_ hnew_;clear hg_ hnew_;(first|rw[← Ny268.out] at ho7|(simp only[Int.reduceToNat] at ho7;rw[← Ny268.out] at ho7));have HO270:=Aside0.mk (Kd.R_lower ho7 (bsz bel_));replace HB:=Aside0.mk (bst bel_ hb);clear hb ho7));try go_wp2_with (first|((with_reducible refine gate_dst (N:=18) rfl ?_);refine Kd.R_make (Kd.int .i64) _ 3 rfl (N:=18) rfl 76 _ _ rfl ji3 rfl rfl Tryd.underlying76 (.int .i64 0) 8 info3 rfl (by decide) (by omega) 0 (ok:=fun _=>True) (okp:=fun _=>True) rfl (fun _ hk=>hk) trivial (dt_) (Nat.le_trans (Nat.mul_le_mul_right _ (dt_:ji3.toNat≤35184372088832)) (by omega)) (Below.refl _ _) (Nat.le_refl _) ?_;intro v269 w6 ho7 hb hg_ hnew_;clear hg_ hnew_;(first|rw[← Ny268.out] at ho7|(simp only[Int.reduceToNat] at ho7;rw[← Ny268.out] at ho7));have HO270:=Aside0.mk (Kd.R_lower ho7 (bsz bel_));replace HB:=Aside0.mk (bst bel_ hb);clear hb ho7))))
   go_loopg [7] k (fun kq v7 w' => ∃ (x6_1:List Int) (x7_1:Int),v7 = .int .i64 x7_1∧Aside0 (sennitref03_rest.l0 kq l0 l1 (wrap64 ((l1.length:Int)+1)) x6_1 x7_1=some r)∧Aside0 (kq≤k)∧Aside0 (Kd.R (Kd.int .i64) 3 w' w.heap.size (fun _=>True) v269 x6_1)∧Aside0 (Below w.heap.size w w'))
   (case atStart=>exact⟨(y268),(wrap64 ((l0.length:Int) - 1)),rs_,H',⟨Nat.le_refl _⟩,⟨pR_ HO270.out⟩,⟨bel_⟩⟩)
   case round =>
    clear H';(try clear c1);(try clear p2);(try clear c4);(try clear c4b0);(try clear c4b1);(try clear c5);(try clear c5b0);(try clear c5b1);(try clear p6);(try clear c7);obtain⟨x6_1,x7_1,rfl,HA,HK1,HO_6,HB⟩:=hrel
    cases gk with
    | zero=>exact absurd HA.out (by simp[sennitref03_rest.l0])
    | succ k1 =>
     have H:=HA.out;clear HA;(simp only[sennitref03_rest.l0] at H)
     by_cases c8:x7_1 ≥ 0
     ·
      (rw[if_pos c8] at H);have c8b0:decide (0≤x7_1)=true:=decide_eq_true c8;clear c8;have H':=Aside0.mk H;clear H;go_wp2;have hW64_ : ∀ x:Int,IntKind.i64.wrap x=wrap64 x:=i64_w;(repeat(go_quiet (fail);try go_wp2))
      go_loopg [8] k1 (fun kq v8 w' => ∃ (x6_2:List Int) (x8_2:Int),v8 = .int .i64 x8_2∧Aside0 (sennitref03_rest.l1 kq l0 l1 (wrap64 ((l1.length:Int)+1)) x6_2 x7_1 x8_2=some r)∧Aside0 (kq≤k1)∧Aside0 (Kd.R (Kd.int .i64) 3 w' w.heap.size (fun _=>True) v269 x6_2)∧Aside0 (Below w.heap.size w w'))
      (case atStart=>exact⟨(x6_1),(wrap64 ((l1.length:Int) - 1)),rs_,H',⟨Nat.le_refl _⟩,⟨pR_ HO_6.out⟩,⟨bel_⟩⟩)
      case round =>
       clear H';(try clear c1);(try clear p2);(try clear c4);(try clear c4b0);(try clear c4b1);(try clear c5);(try clear c5b0);(try clear c5b1);(try clear p6);(try clear c7);(try clear c8);(try clear c8b0);(try clear p2);(try clear p6);obtain⟨x6_2,x8_2,rfl,HA,HK2,HO_6,HB⟩:=hrel
       cases gk with
       | zero=>exact absurd HA.out (by simp[sennitref03_rest.l1])
       | succ k2 =>
        have H:=HA.out;clear HA;(simp only[sennitref03_rest.l1] at H)
        by_cases c9:x8_2 ≥ 0
        ·
         (rw[if_pos c9] at H);have c9b0:decide (0≤x8_2)=true:=decide_eq_true c9;clear c9;obtain⟨ji10,hji10⟩ : ∃ j_:Int,(wrap64 ((wrap64 ((wrap64 (x7_1+1)) * (wrap64 ((l1.length:Int)+1))))+x8_2))=j_:=⟨_,rfl⟩;(first|rw[hji10] at H|simp only[hji10] at H);have hji10w:(IntKind.i64.wrap ((wrap64 ((wrap64 (x7_1+1)) * (wrap64 ((l1.length:Int)+1))))+x8_2))=ji10:=(i64_w _).trans hji10
         by_cases c11:0≤(ji10)
         ·
          (rw[if_pos c11] at H);have c11b0:decide (0≤(ji10))=true:=decide_eq_true c11;clear c11
          by_cases c12:(ji10) < (x6_2.length:Int)
          ·
           (rw[if_pos c12] at H);have c12b0:decide ((ji10) < (x6_2.length:Int))=true:=decide_eq_true c12;clear c12;obtain⟨ji13,hji13⟩ : ∃ j_:Int,(wrap64 ((wrap64 ((wrap64 (x7_1 * (wrap64 ((l1.length:Int)+1))))+x8_2))+1))=j_:=⟨_,rfl⟩;(first|rw[hji13] at H|simp only[hji13] at H);have hji13w:(IntKind.i64.wrap ((wrap64 ((wrap64 (x7_1 * (wrap64 ((l1.length:Int)+1))))+x8_2))+1))=ji13:=(i64_w _).trans hji13
           by_cases c14:0≤(ji13)
           ·
            (rw[if_pos c14] at H);have c14b0:decide (0≤(ji13))=true:=decide_eq_true c14;clear c14
            by_cases c15:(ji13) < (x6_2.length:Int)
            ·
             (rw[if_pos c15] at H);have c15b0:decide ((ji13) < (x6_2.length:Int))=true:=decide_eq_true c15;clear c15;obtain⟨ji16,hji16⟩ : ∃ j_:Int,(mx (rd x6_2 (ji10)) (rd x6_2 (ji13)))=j_:=⟨_,rfl⟩;(first|rw[hji16] at H|simp only[hji16] at H);have hji16_:(if (rd x6_2 (ji10)) < (rd x6_2 (ji13)) then (rd x6_2 (ji13)) else (rd x6_2 (ji10)))=ji16:=hji16
             by_cases c17:0≤x7_1
             ·
              (rw[if_pos c17] at H);have c17b0:decide (0≤x7_1)=true:=decide_eq_true c17;clear c17
              by_cases c18:x7_1 < (l0.length:Int)
              ·
               (rw[if_pos c18] at H);have c18b0:decide (x7_1 < (l0.length:Int))=true:=decide_eq_true c18;clear c18
               by_cases c19:0≤x8_2
               ·
                (rw[if_pos c19] at H);have c19b0:decide (0≤x8_2)=true:=decide_eq_true c19;clear c19
                by_cases c20:x8_2 < (l1.length:Int)
                ·
                 (rw[if_pos c20] at H);have c20b0:decide (x8_2 < (l1.length:Int))=true:=decide_eq_true c20;clear c20
                 by_cases c21:(rd l0 x7_1)=(rd l1 x8_2)
                 ·
                  (rw[if_pos c21] at H);have c21b0:((rd l0 x7_1) == (rd l1 x8_2))=true:=beq_iff_eq.mpr c21;have c21b1:((rd l0 x7_1) != (rd l1 x8_2))=false:=bne_eq_false_iff_eq.mpr c21;clear c21;obtain⟨ji22,hji22⟩ : ∃ j_:Int,(wrap64 ((ji10)+1))=j_:=⟨_,rfl⟩;(first|rw[hji22] at H|simp only[hji22] at H);have hji22w:(IntKind.i64.wrap ((ji10)+1))=ji22:=(i64_w _).trans hji22
                  by_cases c23:0≤(ji22)
                  ·
                   (rw[if_pos c23] at H);have c23b0:decide (0≤(ji22))=true:=decide_eq_true c23;clear c23
                   by_cases c24:(ji22) < (x6_2.length:Int)
                   ·
                    (rw[if_pos c24] at H);have c24b0:decide ((ji22) < (x6_2.length:Int))=true:=decide_eq_true c24;clear c24;obtain⟨ji25,hji25⟩ : ∃ j_:Int,(mx (ji16) (wrap64 ((rd x6_2 (ji22))+1)))=j_:=⟨_,rfl⟩;(first|rw[hji25] at H|simp only[hji25] at H);have hji25_:(if (ji16) < (wrap64 ((rd x6_2 (ji22))+1)) then (wrap64 ((rd x6_2 (ji22))+1)) else (ji16))=ji25:=hji25;obtain⟨ji26,hji26⟩ : ∃ j_:Int,(wrap64 ((wrap64 (x7_1 * (wrap64 ((l1.length:Int)+1))))+x8_2))=j_:=⟨_,rfl⟩;(have hji13_ji26:=hji13;(try rw[hji26] at hji13_ji26));(first|rw[hji26] at H|simp only[hji26] at H);have hji26w:(IntKind.i64.wrap ((wrap64 (x7_1 * (wrap64 ((l1.length:Int)+1))))+x8_2))=ji26:=(i64_w _).trans hji26
                    by_cases c27:0≤(ji26)
                    ·
                     (rw[if_pos c27] at H);have c27b0:decide (0≤(ji26))=true:=decide_eq_true c27;clear c27
                     by_cases c28:(ji26) < (x6_2.length:Int)
                     ·
                      (rw[if_pos c28] at H);have c28b0:decide ((ji26) < (x6_2.length:Int))=true:=decide_eq_true c28;clear c28;obtain⟨y276,hy276⟩ : ∃ y_:List Int,y_=(x6_2.set ((ji26):Int).toNat (ji25)):=⟨_,rfl⟩;((try rw[Option.bind_some] at H);rw[← hy276] at H);have Ny276:=Aside0.mk hy276;clear hy276;have H':=Aside0.mk H;clear H;obtain⟨Ao30,co30,eo30⟩:=Kd.R_slice HO_6.out;subst eo30;have p271:0≤((ji10):Int):=dt_;have q271:(ji10) < (x6_2.length:Int):=dt_;obtain⟨ad271,e271,hx271_0⟩:=Kd.at_int (Kd.R_reads' HO_6.out).2.2 (ji10) p271 q271;cases e271;replace p271:=eq_true p271;replace q271:=eq_true q271;have p272:0≤((ji13):Int):=dt_;have q272:(ji13) < (x6_2.length:Int):=dt_;obtain⟨ad272,e272,hx272_0⟩:=Kd.at_int (Kd.R_reads' HO_6.out).2.2 (ji13) p272 q272;obtain rfl:ad271=ad272:=(by injection e272);replace p272:=eq_true p272;replace q272:=eq_true q272;have p273:0≤(x7_1:Int):=dt_;have q273:x7_1 < (l0.length:Int):=dt_;obtain⟨ad273,e273,hx273_0⟩:=Kd.at_int HR0.out x7_1 p273 q273;cases e273;replace hx273_0:=(HB.out.cell (World.block_lt_of_cell? w _ hx273_0)).trans hx273_0;replace p273:=eq_true p273;replace q273:=eq_true q273;have p274:0≤(x8_2:Int):=dt_;have q274:x8_2 < (l1.length:Int):=dt_;obtain⟨ad274,e274,hx274_0⟩:=Kd.at_int HR1.out x8_2 p274 q274;cases e274;replace hx274_0:=(HB.out.cell (World.block_lt_of_cell? w _ hx274_0)).trans hx274_0;replace p274:=eq_true p274;replace q274:=eq_true q274;have p275:0≤((ji22):Int):=dt_;have q275:(ji22) < (x6_2.length:Int):=dt_;obtain⟨ad275,e275,hx275_0⟩:=Kd.at_int (Kd.R_reads' HO_6.out).2.2 (ji22) p275 q275;obtain rfl:ad271=ad275:=(by injection e275);replace p275:=eq_true p275;replace q275:=eq_true q275;have p29:0≤((ji26):Int):=dt_;have q29:((ji26):Int) < ((x6_2.length:Int):Int):=dt_;obtain⟨go29,co29,eo29,gb29,gl29,cl29,HG29⟩:=Kd.R_form HO_6.out (by omega);(first|cases eo29|(injection eo29 with ea_ en_ ec_;(first|subst ea_|(injection ea_ with ea_;subst ea_));subst ec_;clear en_));have GB29:=Aside0.mk gb29;have GG29:=Aside0.mk HG29;clear gb29 gl29 HG29;(first|simp only[add_plain] at hx271_0|skip);(first|simp only[add_plain] at hx272_0|skip);(first|simp only[add_plain] at hx275_0|skip);obtain⟨hx29_0,hf29_0⟩:=Kd.R_celln 0 HO_6.out ((ji26):Int) p29 q29;replace p29:=eq_true p29;replace q29:=eq_true q29;have HP31:=Kd.R_putg HO_6.out ((ji26):Int) ji25;(go_wp2_with (first|((with_reducible refine gate_store (t:=3) (p:=81) rfl ?_);(try(rw[drewN_self wr];generalize hq_:World.drewN wr _=wr;have n0_:=Aside0.mk (Kd.R_at hq_ HO_6.out);have n1_:=Aside0.mk (below_at hq_ HB.out);(try(have hx271_0:=cellD hq_ hx271_0));(try(have hx272_0:=cellD hq_ hx272_0));(try(have hx273_0:=cellD hq_ hx273_0));(try(have hx274_0:=cellD hq_ hx274_0));(try(have hx275_0:=cellD hq_ hx275_0));(try(have hx29_0:=cellD hq_ hx29_0));(try(have hf29_0:=frozenD hq_ hf29_0));clear hq_ HO_6 HB;have HO_6:=n0_;have HB:=n1_;clear n0_ n1_;(try(have HP31:=Kd.R_putg HO_6.out ((ji26):Int) ji25))));refine store_event (t:=3) (p:=81) (v:=?vo_w32) (w1:=(wr.setCell ⟨go29,((ji26):Int).toNat,none⟩ (.int .i64 ji25))) ?hg ?ho ?hn ?hr ?_;(case ho=>rfl);(case hg=>rfl);(case hn=>rfl);(case hr=>first|(go_simp;done)|(go_simp;rfl));intro w32 hw;have hg:wr.grownBy w32 (some go29):=(by rw[hw];exact HP31.2);have hp_:Kd.R (Kd.int .i64) 3 w32 w.heap.size (fun _=>True) (.slice (some ⟨go29,0,none⟩) x6_2.length co30) y276:=(by rw[hw,Ny276.out];exact HP31.1);clear HP31;replace HO_6:=Aside0.mk (hp_);replace HB:=Aside0.mk ((by rw[hw];exact below_set (HB.out) GB29.out:Below w.heap.size w w32));clear hg hw hp_)));have hW64_ : ∀ x:Int,IntKind.i64.wrap x=wrap64 x:=i64_w
                      (repeat(go_quiet (first|((with_reducible refine gate_store (t:=3) (p:=81) rfl ?_);(try(rw[drewN_self wr];generalize hq_:World.drewN wr _=wr;have n0_:=Aside0.mk (Kd.R_at hq_ HO_6.out);have n1_:=Aside0.mk (below_at hq_ HB.out);(try(have hx271_0:=cellD hq_ hx271_0));(try(have hx272_0:=cellD hq_ hx272_0));(try(have hx273_0:=cellD hq_ hx273_0));(try(have hx274_0:=cellD hq_ hx274_0));(try(have hx275_0:=cellD hq_ hx275_0));(try(have hx29_0:=cellD hq_ hx29_0));(try(have hf29_0:=frozenD hq_ hf29_0));clear hq_ HO_6 HB;have HO_6:=n0_;have HB:=n1_;clear n0_ n1_;(try(have HP31:=Kd.R_putg HO_6.out ((ji26):Int) ji25))));refine store_event (t:=3) (p:=81) (v:=?vo_w32) (w1:=(wr.setCell ⟨go29,((ji26):Int).toNat,none⟩ (.int .i64 ji25))) ?hg ?ho ?hn ?hr ?_;(case ho=>rfl);(case hg=>rfl);(case hn=>rfl);(case hr=>first|(go_simp;done)|(go_simp;rfl));intro w32 hw;have hg:wr.grownBy w32 (some go29):=(by rw[hw];exact HP31.2);have hp_:Kd.R (Kd.int .i64) 3 w32 w.heap.size (fun _=>True) (.slice (some ⟨go29,0,none⟩) x6_2.length co30) y276:=(by rw[hw,Ny276.out];exact HP31.1);clear HP31;replace HO_6:=Aside0.mk (hp_);replace HB:=Aside0.mk ((by rw[hw];exact below_set (HB.out) GB29.out:Below w.heap.size w w32));clear hg hw hp_));try go_wp2_with (first|((with_reducible refine gate_store (t:=3) (p:=81) rfl ?_);(try(rw[drewN_self wr];generalize hq_:World.drewN wr _=wr;have n0_:=Aside0.mk (Kd.R_at hq_ HO_6.out);have n1_:=Aside0.mk (below_at hq_ HB.out);(try(have hx271_0:=cellD hq_ hx271_0));(try(have hx272_0:=cellD hq_ hx272_0));(try(have hx273_0:=cellD hq_ hx273_0));(try(have hx274_0:=cellD hq_ hx274_0));(try(have hx275_0:=cellD hq_ hx275_0));(try(have hx29_0:=cellD hq_ hx29_0));(try(have hf29_0:=frozenD hq_ hf29_0));clear hq_ HO_6 HB;have HO_6:=n0_;have HB:=n1_;clear n0_ n1_;(try(have HP31:=Kd.R_putg HO_6.out ((ji26):Int) ji25))));refine store_event (t:=3) (p:=81) (v:=?vo_w32) (w1:=(wr.setCell ⟨go29,((ji26):Int).toNat,none⟩ (.int .i64 ji25))) ?hg ?ho ?hn ?hr ?_;(case ho=>rfl);(case hg=>rfl);(case hn=>rfl);(case hr=>first|(go_simp;done)|(go_simp;rfl));intro w32 hw;have hg:wr.grownBy w32 (some go29):=(by rw[hw];exact HP31.2);have hp_:Kd.R (Kd.int .i64) 3 w32 w.heap.size (fun _=>True) (.slice (some ⟨go29,0,none⟩) x6_2.length co30) y276:=(by rw[hw,Ny276.out];exact HP31.1);clear HP31;replace HO_6:=Aside0.mk (hp_);replace HB:=Aside0.mk ((by rw[hw];exact below_set (HB.out) GB29.out:Below w.heap.size w w32));clear hg hw hp_))))
                      go_roundg k2
                      (case measure=>have:=HK1.out;have:=HK2.out;omega);(case rel=>exact⟨(y276),(wrap64 (x8_2 - 1)),rs_,H',⟨by have:=HK1.out;have:=HK2.out;omega⟩,⟨pR_ HO_6.out⟩,⟨bel_⟩⟩)
                     (· exact nx_ c28 H)
                    (· exact nx_ c27 H)
                   (· exact nx_ c24 H)
                  (· exact nx_ c23 H)
                 ·
                  (rw[if_neg c21] at H);have c21b0:((rd l0 x7_1) == (rd l1 x8_2))=false:=beq_eq_false_iff_ne.mpr c21;have c21b1:((rd l0 x7_1) != (rd l1 x8_2))=true:=bne_iff_ne.mpr c21;obtain⟨ji33,hji33⟩ : ∃ j_:Int,(wrap64 ((wrap64 (x7_1 * (wrap64 ((l1.length:Int)+1))))+x8_2))=j_:=⟨_,rfl⟩;(have hji13_ji33:=hji13;(try rw[hji33] at hji13_ji33));(first|rw[hji33] at H|simp only[hji33] at H);have hji33w:(IntKind.i64.wrap ((wrap64 (x7_1 * (wrap64 ((l1.length:Int)+1))))+x8_2))=ji33:=(i64_w _).trans hji33
                  by_cases c34:0≤(ji33)
                  ·
                   (rw[if_pos c34] at H);have c34b0:decide (0≤(ji33))=true:=decide_eq_true c34;clear c34
                   by_cases c35:(ji33) < (x6_2.length:Int)
                   ·
                    (rw[if_pos c35] at H);have c35b0:decide ((ji33) < (x6_2.length:Int))=true:=decide_eq_true c35;clear c35;obtain⟨y277,hy277⟩ : ∃ y_:List Int,y_=(x6_2.set ((ji33):Int).toNat (ji16)):=⟨_,rfl⟩;((try rw[Option.bind_some] at H);rw[← hy277] at H);have Ny277:=Aside0.mk hy277;clear hy277;have H':=Aside0.mk H;clear H;obtain⟨Ao37,co37,eo37⟩:=Kd.R_slice HO_6.out;subst eo37;have p271:0≤((ji10):Int):=dt_;have q271:(ji10) < (x6_2.length:Int):=dt_;obtain⟨ad271,e271,hx271_0⟩:=Kd.at_int (Kd.R_reads' HO_6.out).2.2 (ji10) p271 q271;cases e271;replace p271:=eq_true p271;replace q271:=eq_true q271;have p272:0≤((ji13):Int):=dt_;have q272:(ji13) < (x6_2.length:Int):=dt_;obtain⟨ad272,e272,hx272_0⟩:=Kd.at_int (Kd.R_reads' HO_6.out).2.2 (ji13) p272 q272;obtain rfl:ad271=ad272:=(by injection e272);replace p272:=eq_true p272;replace q272:=eq_true q272;have p273:0≤(x7_1:Int):=dt_;have q273:x7_1 < (l0.length:Int):=dt_;obtain⟨ad273,e273,hx273_0⟩:=Kd.at_int HR0.out x7_1 p273 q273;cases e273;replace hx273_0:=(HB.out.cell (World.block_lt_of_cell? w _ hx273_0)).trans hx273_0;replace p273:=eq_true p273;replace q273:=eq_true q273;have p274:0≤(x8_2:Int):=dt_;have q274:x8_2 < (l1.length:Int):=dt_;obtain⟨ad274,e274,hx274_0⟩:=Kd.at_int HR1.out x8_2 p274 q274;cases e274;replace hx274_0:=(HB.out.cell (World.block_lt_of_cell? w _ hx274_0)).trans hx274_0;replace p274:=eq_true p274;replace q274:=eq_true q274;have p36:0≤((ji33):Int):=dt_;have q36:((ji33):Int) < ((x6_2.length:Int):Int):=dt_;obtain⟨go36,co36,eo36,gb36,gl36,cl36,HG36⟩:=Kd.R_form HO_6.out (by omega);(first|cases eo36|(injection eo36 with ea_ en_ ec_;(first|subst ea_|(injection ea_ with ea_;subst ea_));subst ec_;clear en_));have GB36:=Aside0.mk gb36;have GG36:=Aside0.mk HG36;clear gb36 gl36 HG36;(first|simp only[add_plain] at hx271_0|skip);(first|simp only[add_plain] at hx272_0|skip);obtain⟨hx36_0,hf36_0⟩:=Kd.R_celln 0 HO_6.out ((ji33):Int) p36 q36;replace p36:=eq_true p36;replace q36:=eq_true q36;have HP38:=Kd.R_putg HO_6.out ((ji33):Int) ji16;(go_wp2_with (first|((with_reducible refine gate_store (t:=3) (p:=81) rfl ?_);(try(rw[drewN_self wr];generalize hq_:World.drewN wr _=wr;have n0_:=Aside0.mk (Kd.R_at hq_ HO_6.out);have n1_:=Aside0.mk (below_at hq_ HB.out);(try(have hx271_0:=cellD hq_ hx271_0));(try(have hx272_0:=cellD hq_ hx272_0));(try(have hx273_0:=cellD hq_ hx273_0));(try(have hx274_0:=cellD hq_ hx274_0));(try(have hx36_0:=cellD hq_ hx36_0));(try(have hf36_0:=frozenD hq_ hf36_0));clear hq_ HO_6 HB;have HO_6:=n0_;have HB:=n1_;clear n0_ n1_;(try(have HP38:=Kd.R_putg HO_6.out ((ji33):Int) ji16))));refine store_event (t:=3) (p:=81) (v:=?vo_w39) (w1:=(wr.setCell ⟨go36,((ji33):Int).toNat,none⟩ (.int .i64 ji16))) ?hg ?ho ?hn ?hr ?_;(case ho=>rfl);(case hg=>rfl);(case hn=>rfl);(case hr=>first|(go_simp;done)|(go_simp;rfl));intro w39 hw;have hg:wr.grownBy w39 (some go36):=(by rw[hw];exact HP38.2);have hp_:Kd.R (Kd.int .i64) 3 w39 w.heap.size (fun _=>True) (.slice (some ⟨go36,0,none⟩) x6_2.length co37) y277:=(by rw[hw,Ny277.out];exact HP38.1);clear HP38;replace HO_6:=Aside0.mk (hp_);replace HB:=Aside0.mk ((by rw[hw];exact below_set (HB.out) GB36.out:Below w.heap.size w w39));clear hg hw hp_)));have hW64_ : ∀ x:Int,IntKind.i64.wrap x=wrap64 x:=i64_w
                    (repeat(go_quiet (first|((with_reducible refine gate_store (t:=3) (p:=81) rfl ?_);(try(rw[drewN_self wr];generalize hq_:World.drewN wr _=wr;have n0_:=Aside0.mk (Kd.R_at hq_ HO_6.out);have n1_:=Aside0.mk (below_at hq_ HB.out);(try(have hx271_0:=cellD hq_ hx271_0));(try(have hx272_0:=cellD hq_ hx272_0));(try(have hx273_0:=cellD hq_ hx273_0));(try(have hx274_0:=cellD hq_ hx274_0));(try(have hx36_0:=cellD hq_ hx36_0));(try(have hf36_0:=frozenD hq_ hf36_0));clear hq_ HO_6 HB;have HO_6:=n0_;have HB:=n1_;clear n0_ n1_;(try(have HP38:=Kd.R_putg HO_6.out ((ji33):Int) ji16))));refine store_event (t:=3) (p:=81) (v:=?vo_w39) (w1:=(wr.setCell ⟨go36,((ji33):Int).toNat,none⟩ (.int .i64 ji16))) ?hg ?ho ?hn ?hr ?_;(case ho=>rfl);(case hg=>rfl);(case hn=>rfl);(case hr=>first|(go_simp;done)|(go_simp;rfl));intro w39 hw;have hg:wr.grownBy w39 (some go36):=(by rw[hw];exact HP38.2);have hp_:Kd.R (Kd.int .i64) 3 w39 w.heap.size (fun _=>True) (.slice (some ⟨go36,0,none⟩) x6_2.length co37) y277:=(by rw[hw,Ny277.out];exact HP38.1);clear HP38;replace HO_6:=Aside0.mk (hp_);replace HB:=Aside0.mk ((by rw[hw];exact below_set (HB.out) GB36.out:Below w.heap.size w w39));clear hg hw hp_));try go_wp2_with (first|((with_reducible refine gate_store (t:=3) (p:=81) rfl ?_);(try(rw[drewN_self wr];generalize hq_:World.drewN wr _=wr;have n0_:=Aside0.mk (Kd.R_at hq_ HO_6.out);have n1_:=Aside0.mk (below_at hq_ HB.out);(try(have hx271_0:=cellD hq_ hx271_0));(try(have hx272_0:=cellD hq_ hx272_0));(try(have hx273_0:=cellD hq_ hx273_0));(try(have hx274_0:=cellD hq_ hx274_0));(try(have hx36_0:=cellD hq_ hx36_0));(try(have hf36_0:=frozenD hq_ hf36_0));clear hq_ HO_6 HB;have HO_6:=n0_;have HB:=n1_;clear n0_ n1_;(try(have HP38:=Kd.R_putg HO_6.out ((ji33):Int) ji16))));refine store_event (t:=3) (p:=81) (v:=?vo_w39) (w1:=(wr.setCell ⟨go36,((ji33):Int).toNat,none⟩ (.int .i64 ji16))) ?hg ?ho ?hn ?hr ?_;(case ho=>rfl);(case hg=>rfl);(case hn=>rfl);(case hr=>first|(go_simp;done)|(go_simp;rfl));intro w39 hw;have hg:wr.grownBy w39 (some go36):=(by rw[hw];exact HP38.2);have hp_:Kd.R (Kd.int .i64) 3 w39 w.heap.size (fun _=>True) (.slice (some ⟨go36,0,none⟩) x6_2.length co37) y277:=(by rw[hw,Ny277.out];exact HP38.1);clear HP38;replace HO_6:=Aside0.mk (hp_);replace HB:=Aside0.mk ((by rw[hw];exact below_set (HB.out) GB36.out:Below w.heap.size w w39));clear hg hw hp_))))
                    go_roundg k2
                    (case measure=>have:=HK1.out;have:=HK2.out;omega);(case rel=>exact⟨(y277),(wrap64 (x8_2 - 1)),rs_,H',⟨by have:=HK1.out;have:=HK2.out;omega⟩,⟨pR_ HO_6.out⟩,⟨bel_⟩⟩)
                   (· exact nx_ c35 H)
                  (· exact nx_ c34 H)
                (· exact nx_ c20 H)
               (· exact nx_ c19 H)
              (· exact nx_ c18 H)
             (· exact nx_ c17 H)
            (· exact nx_ c15 H)
           (· exact nx_ c14 H)
          (· exact nx_ c12 H)
         (· exact nx_ c11 H)
        ·
         (rw[if_neg c9] at H);have c9b0:decide (0≤x8_2)=false:=decide_eq_false c9;clear c9;have H':=Aside0.mk H;clear H;go_wp2;have hW64_ : ∀ x:Int,IntKind.i64.wrap x=wrap64 x:=i64_w;(repeat(go_quiet (fail);try go_wp2))
         go_roundg k2
         (case measure=>have:=HK1.out;have:=HK2.out;omega);(case rel=>exact⟨(x6_2),(wrap64 (x7_1 - 1)),rs_,H',⟨by have:=HK1.out;have:=HK2.out;omega⟩,⟨pR_ HO_6.out⟩,⟨bel_⟩⟩)
     (· (rw[if_neg c8] at H);have c8b0:decide (0≤x7_1)=false:=decide_eq_false c8;clear c8;obtain rfl:=Option.some.inj H;go_wp2;have hW64_ : ∀ x:Int,IntKind.i64.wrap x=wrap64 x:=i64_w;(repeat(go_quiet (fail);try go_wp2));go_ret;exact⟨_,by first|rfl|(simp[errW_none,errW_some] <;> rfl)|(simp only[← hji3];first|rfl|(simp[errW_none,errW_some] <;> rfl))|(simp[*,errW_none,errW_some] <;> rfl),by(with_reducible repeat(first|apply Kd.R_alloc|apply Kd.R_drewN|apply Kd.R_drew));exact HO_6.out,bel_⟩)
  (· exact nx_ c5 H)
 (· exact nx_ c4 H)
mutual
def sennitref03_Match.l0:Nat→List Int→List Int→List Int→Int→List Int→Int→Int→Option (List Int)
  | 0,_,_,_,_,_,_,_=>none
  | k+1,x0,x1,x5,x6,x7,x8,x9=>if x9 < (x0.length:Int) then (sennitref03_Match.l1 k x0 x1 x5 x6 x7 x8 x9 (-1)) else (some x7)
def sennitref03_Match.l1:Nat→List Int→List Int→List Int→Int→List Int→Int→Int→Int→Option (List Int)
  | 0,_,_,_,_,_,_,_,_=>none
  | k+1,x0,x1,x5,x6,x7,x8,x9,x10=>if x8 < (x1.length:Int) then (if 0≤x9 then (if x9 < (x0.length:Int) then (if 0≤x8 then (if (rd x0 x9)=(rd x1 x8) then (if x7.length < 17592186044416 then (sennitref03_Match.l0 k x0 x1 x5 x6 (x7 ++ [x8]) (wrap64 (x8+1)) (wrap64 (x9+1))) else (none)) else (if 0≤(wrap64 ((wrap64 ((wrap64 (x9+1)) * x6))+x8)) then (if (wrap64 ((wrap64 ((wrap64 (x9+1)) * x6))+x8)) < (x5.length:Int) then (if 0≤(wrap64 ((wrap64 ((wrap64 (x9 * x6))+x8))+1)) then (if (wrap64 ((wrap64 ((wrap64 (x9 * x6))+x8))+1)) < (x5.length:Int) then (if (rd x5 (wrap64 ((wrap64 ((wrap64 (x9+1)) * x6))+x8))) < (rd x5 (wrap64 ((wrap64 ((wrap64 (x9 * x6))+x8))+1))) then (sennitref03_Match.l1 k x0 x1 x5 x6 x7 (wrap64 (x8+1)) x9 x10) else (if x7.length < 17592186044416 then (sennitref03_Match.l0 k x0 x1 x5 x6 (x7 ++ [x10]) x8 (wrap64 (x9+1))) else (none))) else (none)) else (none)) else (none)) else (none))) else (none)) else (none)) else (none)) else (if x7.length < 17592186044416 then (sennitref03_Match.l0 k x0 x1 x5 x6 (x7 ++ [x10]) x8 (wrap64 (x9+1))) else (none))
end
def sennitref03_Match.f (k:Nat) (l0:List Int) (l1:List Int):Option (List Int):=(sennitref03_rest.f k l0 l1).bind fun t278=>(sennitref03_Match.l0 k l0 l1 t278 (wrap64 ((l1.length:Int)+1)) ([]:List Int) 0 0)
theorem sennitref03_Match.calls (k:Nat) (A0:Option Addr) (c0:Nat) (l0:List Int) (A1:Option Addr) (c1:Nat) (l1:List Int) (r:List Int) (w:World) (hr0:Kd.C (Kd.int .i64) w A0 l0.length l0) (hc0:l0.length≤c0) (hr1:Kd.C (Kd.int .i64) w A1 l1.length l1) (hc1:l1.length≤c1) (h:sennitref03_Match.f k l0 l1=some r) :
    Calls Tryd.prog 47 #[.slice A0 l0.length c0, .slice A1 l1.length c1] w fun e w' => ∃ v0_:Value,e = .returned (v0_)∧Kd.R (Kd.int .i64) 3 w' w.heap.size (fun _=>True) v0_ r∧Below w.heap.size w w':=by
 have HR0:=Aside0.mk hr0;have HC0:=Aside0.mk hc0;clear hr0 hc0;have HR1:=Aside0.mk hr1;have HC1:=Aside0.mk hc1;clear hr1 hc1;have HB:=Aside0.mk (Below.refl w.heap.size w);have H:=h;(rw[sennitref03_Match.f] at H);clear h;replace H:=Option.bind_eq_some_iff.mp H;obtain⟨t278,A30,H⟩:=H;(try dsimp only at H);have A3:=Aside0.mk A30;clear A30;have H':=Aside0.mk H;clear H;go_enter Tryd.func47,Tryd.ntmps47;(go_wp2_with (first|(go_at_call 77;(with_reducible refine(sennitref03_rest.calls k _ _ l0 _ _ l1 t278 _ ?side1 ?side2 ?side3 ?side4 A3.out).mono ?_);(case side1=>exact pC_ HR0.out);(case side2=>exact HC0.out);(case side3=>exact pC_ HR1.out);(case side4=>exact HC1.out);rintro e w4 ⟨v279,rfl,ho0,hb⟩;have HO280:=Aside0.mk (Kd.R_lower ho0 (bsz bel_));replace HB:=Aside0.mk (bst bel_ hb);(try clear hb);(try clear hb2);(try clear hk);(try clear hi);(try clear ho0))));(repeat(go_quiet (first|(go_at_call 77;(with_reducible refine(sennitref03_rest.calls k _ _ l0 _ _ l1 t278 _ ?side1 ?side2 ?side3 ?side4 A3.out).mono ?_);(case side1=>exact pC_ HR0.out);(case side2=>exact HC0.out);(case side3=>exact pC_ HR1.out);(case side4=>exact HC1.out);rintro e w4 ⟨v279,rfl,ho0,hb⟩;have HO280:=Aside0.mk (Kd.R_lower ho0 (bsz bel_));replace HB:=Aside0.mk (bst bel_ hb);(try clear hb);(try clear hb2);(try clear hk);(try clear hi);(try clear ho0)));try go_wp2_with (first|(go_at_call 77;(with_reducible refine(sennitref03_rest.calls k _ _ l0 _ _ l1 t278 _ ?side1 ?side2 ?side3 ?side4 A3.out).mono ?_);(case side1=>exact pC_ HR0.out);(case side2=>exact HC0.out);(case side3=>exact pC_ HR1.out);(case side4=>exact HC1.out);rintro e w4 ⟨v279,rfl,ho0,hb⟩;have HO280:=Aside0.mk (Kd.R_lower ho0 (bsz bel_));replace HB:=Aside0.mk (bst bel_ hb);(try clear hb);(try clear hb2);(try clear hk);(try clear hi);(try clear ho0)))))
 go_loopg [7,8,9] k (fun kq v7 v8 v9 w' => ∃ (x7_1:List Int) (x8_1:Int) (x9_1:Int),v8 = .int .i64 x8_1∧v9 = .int .i64 x9_1∧Aside0 (sennitref03_Match.l0 kq l0 l1 t278 (wrap64 ((l1.length:Int)+1)) x7_1 x8_1 x9_1=some r)∧Aside0 (kq≤k)∧Aside0 (Kd.R (Kd.int .i64) 3 w' w.heap.size (fun k_=>some k_≠(v7:Value).ownBlock) v279 t278)∧Aside0 (Kd.R (Kd.int .i64) 3 w' w.heap.size (fun k_=>some k_≠(v279:Value).ownBlock) v7 x7_1)∧Aside0 (Below w.heap.size w w'))
 (case atStart=>exact⟨(([]:List Int)),(0),(0),rs_,rs_,H',⟨Nat.le_refl _⟩,⟨Kd.R_mono (pRm_ HO280.out) (fun _ hk=>(by simp[Value.ownBlock]))⟩,⟨by first|exact Kd.R_nil _ _ _ _ _|exact Kd.N_nil _ _ _ _ _|exact Kd.V_nil _ _ _ _ _|exact Kd.Q_nil _ _ _ _ _|exact Kd.S_nil _ _ _ _ _⟩,⟨bel_⟩⟩)
 case round =>
  clear H';(try clear c1);(try clear p2);(try clear c4);obtain⟨x7_1,x8_1,x9_1,rfl,rfl,HA,HK1,HO_5,HO_7,HB⟩:=hrel
  cases gk with
  | zero=>exact absurd HA.out (by simp[sennitref03_Match.l0])
  | succ k1 =>
   have H:=HA.out;clear HA;(simp only[sennitref03_Match.l0] at H)
   by_cases c5:x9_1 < (l0.length:Int)
   ·
    (rw[if_pos c5] at H);have c5b0:decide (x9_1 < (l0.length:Int))=true:=decide_eq_true c5;clear c5;have H':=Aside0.mk H;clear H;go_wp2;(repeat(go_quiet (fail);try go_wp2))
    go_loopg [8] k1 (fun kq v8 w' => ∃ (x8_2:Int),v8 = .int .i64 x8_2∧Aside0 (sennitref03_Match.l1 kq l0 l1 t278 (wrap64 ((l1.length:Int)+1)) x7_1 x8_2 x9_1 (-1)=some r)∧Aside0 (kq≤k1)∧Aside0 (Kd.R (Kd.int .i64) 3 w' w.heap.size (fun k_=>some k_≠(u7:Value).ownBlock) v279 t278)∧Aside0 (Kd.R (Kd.int .i64) 3 w' w.heap.size (fun k_=>some k_≠(v279:Value).ownBlock) u7 x7_1)∧Aside0 (Below w.heap.size w w'))
    (case atStart=>exact⟨(x8_1),rs_,H',⟨Nat.le_refl _⟩,⟨pR_ HO_5.out⟩,⟨pR_ HO_7.out⟩,⟨bel_⟩⟩)
    case round =>
     clear H';(try clear c1);(try clear p2);(try clear c4);(try clear c5);(try clear c5b0);(try clear p2);obtain⟨x8_2,rfl,HA,HK2,HO_5,HO_7,HB⟩:=hrel
     cases gk with
     | zero=>exact absurd HA.out (by simp[sennitref03_Match.l1])
     | succ k2 =>
      have H:=HA.out;clear HA;(simp only[sennitref03_Match.l1] at H)
      by_cases c6:x8_2 < (l1.length:Int)
      ·
       (rw[if_pos c6] at H);have c6b0:decide (x8_2 < (l1.length:Int))=true:=decide_eq_true c6;clear c6
       by_cases c7:0≤x9_1
       ·
        (rw[if_pos c7] at H);have c7b0:decide (0≤x9_1)=true:=decide_eq_true c7;clear c7
        by_cases c8:x9_1 < (l0.length:Int)
        ·
         (rw[if_pos c8] at H);have c8b0:decide (x9_1 < (l0.length:Int))=true:=decide_eq_true c8;clear c8
         by_cases c9:0≤x8_2
         ·
          (rw[if_pos c9] at H);have c9b0:decide (0≤x8_2)=true:=decide_eq_true c9;clear c9
          by_cases c10:(rd l0 x9_1)=(rd l1 x8_2)
          ·
           (rw[if_pos c10] at H);have c10b0:((rd l0 x9_1) == (rd l1 x8_2))=true:=beq_iff_eq.mpr c10;have c10b1:((rd l0 x9_1) != (rd l1 x8_2))=false:=bne_eq_false_iff_eq.mpr c10;clear c10
           by_cases c11:x7_1.length < 17592186044416
           ·
            (rw[if_pos c11] at H);have LMc11:=Aside0.mk c11;clear c11;obtain⟨y285,hy285⟩ : ∃ y_:List Int,y_=(x7_1 ++ [x8_2]):=⟨_,rfl⟩;((try rw[Option.bind_some] at H);rw[← hy285] at H);have Ny285:=Aside0.mk hy285;clear hy285;have H':=Aside0.mk H;clear H;have p281:0≤(x9_1:Int):=dt_;have q281:x9_1 < (l0.length:Int):=dt_;obtain⟨ad281,e281,hx281_0⟩:=Kd.at_int HR0.out x9_1 p281 q281;cases e281;replace hx281_0:=(HB.out.cell (World.block_lt_of_cell? w _ hx281_0)).trans hx281_0;replace p281:=eq_true p281;replace q281:=eq_true q281;have p282:0≤(x8_2:Int):=dt_;have q282:x8_2 < (l1.length:Int):=dt_;obtain⟨ad282,e282,hx282_0⟩:=Kd.at_int HR1.out x8_2 p282 q282;cases e282;replace hx282_0:=(HB.out.cell (World.block_lt_of_cell? w _ hx282_0)).trans hx282_0;replace p282:=eq_true p282;replace q282:=eq_true q282;have p283:0≤(x9_1:Int):=dt_;have q283:x9_1 < (l0.length:Int):=dt_;obtain⟨ad283,e283,hx283_0⟩:=Kd.at_int HR0.out x9_1 p283 q283;obtain rfl:ad281=ad283:=(by injection e283);replace hx283_0:=(HB.out.cell (World.block_lt_of_cell? w _ hx283_0)).trans hx283_0;replace p283:=eq_true p283;replace q283:=eq_true q283;have p284:0≤(x8_2:Int):=dt_;have q284:x8_2 < (l1.length:Int):=dt_;obtain⟨ad284,e284,hx284_0⟩:=Kd.at_int HR1.out x8_2 p284 q284;obtain rfl:ad282=ad284:=(by injection e284);replace hx284_0:=(HB.out.cell (World.block_lt_of_cell? w _ hx284_0)).trans hx284_0;replace p284:=eq_true p284;replace q284:=eq_true q284;(go_wp2_with (first|((with_reducible refine gate_builtin (b := .append) (xs:=#[.tmp 79, .tmp 81]) rfl ?_);at_builtin;refine Kd.R_append (Kd.int .i64) (w0:=w) w.heap.size rfl (.tmp 79) (.tmp 81) 76 3 (.int .i64 0) 8 rfl Tryd.underlying76 info3 rfl (by decide) (by omega) u7 x7_1 x8_2 [.int .i64 x8_2] (fun k_=>some k_≠(v279:Value).ownBlock) (fun _=>False) rfl rfl ?aP (fun _ hk=>hk.elim) ?aF ?aO ?aB ?aS ?aL ?_;(case aP=>exact rfl);(case aB=>exact bel_);(case aF=>exact(fun k_ hk=>Kd.fresh' (Kd.R_lt (pR_ HO_5.out)) k_ hk));(case aO=>exact(pR_ HO_7.out));(case aS=>exact(bsz bel_));(case aL=>have:=LMc11.out;omega);intro v286 w12 ho hb hg hat;rw[← Ny285.out] at ho;replace HO_5:=Aside0.mk (Kd.R_after (ok:=(fun _=>True)) (Kd.R_mono (pRm_ HO_5.out) (fun _ hk=>⟨trivial,hk⟩)) hg hat);replace HB:=Aside0.mk (hb);have HO287:=Aside0.mk (ho);clear HO_7;clear ho hb hg hat)))
            (repeat(go_quiet (first|((with_reducible refine gate_builtin (b := .append) (xs:=#[.tmp 79, .tmp 81]) rfl ?_);at_builtin;refine Kd.R_append (Kd.int .i64) (w0:=w) w.heap.size rfl (.tmp 79) (.tmp 81) 76 3 (.int .i64 0) 8 rfl Tryd.underlying76 info3 rfl (by decide) (by omega) u7 x7_1 x8_2 [.int .i64 x8_2] (fun k_=>some k_≠(v279:Value).ownBlock) (fun _=>False) rfl rfl ?aP (fun _ hk=>hk.elim) ?aF ?aO ?aB ?aS ?aL ?_;(case aP=>exact rfl);(case aB=>exact bel_);(case aF=>exact(fun k_ hk=>Kd.fresh' (Kd.R_lt (pR_ HO_5.out)) k_ hk));(case aO=>exact(pR_ HO_7.out));(case aS=>exact(bsz bel_));(case aL=>have:=LMc11.out;omega);intro v286 w12 ho hb hg hat;rw[← Ny285.out] at ho;replace HO_5:=Aside0.mk (Kd.R_after (ok:=(fun _=>True)) (Kd.R_mono (pRm_ HO_5.out) (fun _ hk=>⟨trivial,hk⟩)) hg hat);replace HB:=Aside0.mk (hb);have HO287:=Aside0.mk (ho);clear HO_7;clear ho hb hg hat));try go_wp2_with (first|((with_reducible refine gate_builtin (b := .append) (xs:=#[.tmp 79, .tmp 81]) rfl ?_);at_builtin;refine Kd.R_append (Kd.int .i64) (w0:=w) w.heap.size rfl (.tmp 79) (.tmp 81) 76 3 (.int .i64 0) 8 rfl Tryd.underlying76 info3 rfl (by decide) (by omega) u7 x7_1 x8_2 [.int .i64 x8_2] (fun k_=>some k_≠(v279:Value).ownBlock) (fun _=>False) rfl rfl ?aP (fun _ hk=>hk.elim) ?aF ?aO ?aB ?aS ?aL ?_;(case aP=>exact rfl);(case aB=>exact bel_);(case aF=>exact(fun k_ hk=>Kd.fresh' (Kd.R_lt (pR_ HO_5.out)) k_ hk));(case aO=>exact(pR_ HO_7.out));(case aS=>exact(bsz bel_));(case aL=>have:=LMc11.out;omega);intro v286 w12 ho hb hg hat;rw[← Ny285.out] at ho;replace HO_5:=Aside0.mk (Kd.R_after (ok:=(fun _=>True)) (Kd.R_mono (pRm_ HO_5.out) (fun _ hk=>⟨trivial,hk⟩)) hg hat);replace HB:=Aside0.mk (hb);have HO287:=Aside0.mk (ho);clear HO_7;clear ho hb hg hat))))
            go_roundg k2
            (case measure=>have:=HK1.out;have:=HK2.out;omega);(case rel=>exact⟨(y285),(wrap64 (x8_2+1)),(wrap64 (x9_1+1)),rs_,rs_,H',⟨by have:=HK1.out;have:=HK2.out;omega⟩,⟨Kd.R_mono (pRm_ HO_5.out) (fun _ hk=>hk.2)⟩,⟨pR_ HO287.out⟩,⟨bel_⟩⟩)
           (· exact nx_ c11 H)
          ·
           (rw[if_neg c10] at H);have c10b0:((rd l0 x9_1) == (rd l1 x8_2))=false:=beq_eq_false_iff_ne.mpr c10;have c10b1:((rd l0 x9_1) != (rd l1 x8_2))=true:=bne_iff_ne.mpr c10;obtain⟨ji13,hji13⟩ : ∃ j_:Int,(wrap64 ((wrap64 ((wrap64 (x9_1+1)) * (wrap64 ((l1.length:Int)+1))))+x8_2))=j_:=⟨_,rfl⟩;(first|rw[hji13] at H|simp only[hji13] at H);have hji13w:(IntKind.i64.wrap ((wrap64 ((wrap64 (x9_1+1)) * (wrap64 ((l1.length:Int)+1))))+x8_2))=ji13:=(i64_w _).trans hji13
           by_cases c14:0≤(ji13)
           ·
            (rw[if_pos c14] at H);have c14b0:decide (0≤(ji13))=true:=decide_eq_true c14;clear c14
            by_cases c15:(ji13) < (t278.length:Int)
            ·
             (rw[if_pos c15] at H);have c15b0:decide ((ji13) < (t278.length:Int))=true:=decide_eq_true c15;clear c15;obtain⟨ji16,hji16⟩ : ∃ j_:Int,(wrap64 ((wrap64 ((wrap64 (x9_1 * (wrap64 ((l1.length:Int)+1))))+x8_2))+1))=j_:=⟨_,rfl⟩;(first|rw[hji16] at H|simp only[hji16] at H);have hji16w:(IntKind.i64.wrap ((wrap64 ((wrap64 (x9_1 * (wrap64 ((l1.length:Int)+1))))+x8_2))+1))=ji16:=(i64_w _).trans hji16
             by_cases c17:0≤(ji16)
             ·
              (rw[if_pos c17] at H);have c17b0:decide (0≤(ji16))=true:=decide_eq_true c17;clear c17
              by_cases c18:(ji16) < (t278.length:Int)
              ·
               (rw[if_pos c18] at H);have c18b0:decide ((ji16) < (t278.length:Int))=true:=decide_eq_true c18;clear c18
               by_cases c19:(rd t278 (ji13)) < (rd t278 (ji16))
               ·
                (rw[if_pos c19] at H);have c19b0:decide ((rd t278 (ji13)) < (rd t278 (ji16)))=true:=decide_eq_true c19;clear c19;have H':=Aside0.mk H;clear H;have p281:0≤(x9_1:Int):=dt_;have q281:x9_1 < (l0.length:Int):=dt_;obtain⟨ad281,e281,hx281_0⟩:=Kd.at_int HR0.out x9_1 p281 q281;cases e281;replace hx281_0:=(HB.out.cell (World.block_lt_of_cell? w _ hx281_0)).trans hx281_0;replace p281:=eq_true p281;replace q281:=eq_true q281;have p282:0≤(x8_2:Int):=dt_;have q282:x8_2 < (l1.length:Int):=dt_;obtain⟨ad282,e282,hx282_0⟩:=Kd.at_int HR1.out x8_2 p282 q282;cases e282;replace hx282_0:=(HB.out.cell (World.block_lt_of_cell? w _ hx282_0)).trans hx282_0;replace p282:=eq_true p282;replace q282:=eq_true q282;obtain⟨Ao20,co20,eo20⟩:=Kd.R_slice HO_5.out;subst eo20;have p288:0≤((ji13):Int):=dt_;have q288:(ji13) < (t278.length:Int):=dt_;obtain⟨ad288,e288,hx288_0⟩:=Kd.at_int (Kd.R_reads' HO_5.out).2.2 (ji13) p288 q288;cases e288;replace p288:=eq_true p288;replace q288:=eq_true q288;have p289:0≤((ji16):Int):=dt_;have q289:(ji16) < (t278.length:Int):=dt_;obtain⟨ad289,e289,hx289_0⟩:=Kd.at_int (Kd.R_reads' HO_5.out).2.2 (ji16) p289 q289;obtain rfl:ad288=ad289:=(by injection e289);replace p289:=eq_true p289;replace q289:=eq_true q289;go_wp2;(repeat(go_quiet (fail);try go_wp2))
                go_roundg k2
                (case measure=>have:=HK1.out;have:=HK2.out;omega);(case rel=>exact⟨(wrap64 (x8_2+1)),rs_,H',⟨by have:=HK1.out;have:=HK2.out;omega⟩,⟨pR_ HO_5.out⟩,⟨pR_ HO_7.out⟩,⟨bel_⟩⟩)
               ·
                (rw[if_neg c19] at H);have c19b0:decide ((rd t278 (ji13)) < (rd t278 (ji16)))=false:=decide_eq_false c19;clear c19
                by_cases c21:x7_1.length < 17592186044416
                ·
                 (rw[if_pos c21] at H);have LMc21:=Aside0.mk c21;clear c21;obtain⟨y292,hy292⟩ : ∃ y_:List Int,y_=(x7_1 ++ [(-1)]):=⟨_,rfl⟩;((try rw[Option.bind_some] at H);rw[← hy292] at H);have Ny292:=Aside0.mk hy292;clear hy292;have H':=Aside0.mk H;clear H;have p281:0≤(x9_1:Int):=dt_;have q281:x9_1 < (l0.length:Int):=dt_;obtain⟨ad281,e281,hx281_0⟩:=Kd.at_int HR0.out x9_1 p281 q281;cases e281;replace hx281_0:=(HB.out.cell (World.block_lt_of_cell? w _ hx281_0)).trans hx281_0;replace p281:=eq_true p281;replace q281:=eq_true q281;have p282:0≤(x8_2:Int):=dt_;have q282:x8_2 < (l1.length:Int):=dt_;obtain⟨ad282,e282,hx282_0⟩:=Kd.at_int HR1.out x8_2 p282 q282;cases e282;replace hx282_0:=(HB.out.cell (World.block_lt_of_cell? w _ hx282_0)).trans hx282_0;replace p282:=eq_true p282;replace q282:=eq_true q282;obtain⟨Ao22,co22,eo22⟩:=Kd.R_slice HO_5.out;subst eo22;have p288:0≤((ji13):Int):=dt_;have q288:(ji13) < (t278.length:Int):=dt_;obtain⟨ad288,e288,hx288_0⟩:=Kd.at_int (Kd.R_reads' HO_5.out).2.2 (ji13) p288 q288;cases e288;replace p288:=eq_true p288;replace q288:=eq_true q288;have p289:0≤((ji16):Int):=dt_;have q289:(ji16) < (t278.length:Int):=dt_;obtain⟨ad289,e289,hx289_0⟩:=Kd.at_int (Kd.R_reads' HO_5.out).2.2 (ji16) p289 q289;obtain rfl:ad288=ad289:=(by injection e289);replace p289:=eq_true p289;replace q289:=eq_true q289;have p290:0≤(x9_1:Int):=dt_;have q290:x9_1 < (l0.length:Int):=dt_;obtain⟨ad290,e290,hx290_0⟩:=Kd.at_int HR0.out x9_1 p290 q290;obtain rfl:ad281=ad290:=(by injection e290);replace hx290_0:=(HB.out.cell (World.block_lt_of_cell? w _ hx290_0)).trans hx290_0;replace p290:=eq_true p290;replace q290:=eq_true q290;have p291:0≤(x8_2:Int):=dt_;have q291:x8_2 < (l1.length:Int):=dt_;obtain⟨ad291,e291,hx291_0⟩:=Kd.at_int HR1.out x8_2 p291 q291;obtain rfl:ad282=ad291:=(by injection e291);replace hx291_0:=(HB.out.cell (World.block_lt_of_cell? w _ hx291_0)).trans hx291_0;replace p291:=eq_true p291;replace q291:=eq_true q291;(go_wp2_with (first|((with_reducible refine gate_builtin (b := .append) (xs:=#[.tmp 79, .tmp 81]) rfl ?_);at_builtin;refine Kd.R_append (Kd.int .i64) (w0:=w) w.heap.size rfl (.tmp 79) (.tmp 81) 76 3 (.int .i64 0) 8 rfl Tryd.underlying76 info3 rfl (by decide) (by omega) u7 x7_1 (-1) [.int .i64 (-1)] (fun k_=>some k_≠(.slice (some ad288) t278.length co22:Value).ownBlock) (fun _=>False) rfl rfl ?aP (fun _ hk=>hk.elim) ?aF ?aO ?aB ?aS ?aL ?_;(case aP=>exact rfl);(case aB=>exact bel_);(case aF=>exact(fun k_ hk=>Kd.fresh' (Kd.R_lt (pR_ HO_5.out)) k_ hk));(case aO=>exact(pR_ HO_7.out));(case aS=>exact(bsz bel_));(case aL=>have:=LMc21.out;omega);intro v293 w23 ho hb hg hat;rw[← Ny292.out] at ho;replace HO_5:=Aside0.mk (Kd.R_after (ok:=(fun _=>True)) (Kd.R_mono (pRm_ HO_5.out) (fun _ hk=>⟨trivial,hk⟩)) hg hat);replace HB:=Aside0.mk (hb);have HO294:=Aside0.mk (ho);clear HO_7;clear ho hb hg hat)))
                 (repeat(go_quiet (first|((with_reducible refine gate_builtin (b := .append) (xs:=#[.tmp 79, .tmp 81]) rfl ?_);at_builtin;refine Kd.R_append (Kd.int .i64) (w0:=w) w.heap.size rfl (.tmp 79) (.tmp 81) 76 3 (.int .i64 0) 8 rfl Tryd.underlying76 info3 rfl (by decide) (by omega) u7 x7_1 (-1) [.int .i64 (-1)] (fun k_=>some k_≠(.slice (some ad288) t278.length co22:Value).ownBlock) (fun _=>False) rfl rfl ?aP (fun _ hk=>hk.elim) ?aF ?aO ?aB ?aS ?aL ?_;(case aP=>exact rfl);(case aB=>exact bel_);(case aF=>exact(fun k_ hk=>Kd.fresh' (Kd.R_lt (pR_ HO_5.out)) k_ hk));(case aO=>exact(pR_ HO_7.out));(case aS=>exact(bsz bel_));(case aL=>have:=LMc21.out;omega);intro v293 w23 ho hb hg hat;rw[← Ny292.out] at ho;replace HO_5:=Aside0.mk (Kd.R_after (ok:=(fun _=>True)) (Kd.R_mono (pRm_ HO_5.out) (fun _ hk=>⟨trivial,hk⟩)) hg hat);replace HB:=Aside0.mk (hb);have HO294:=Aside0.mk (ho);clear HO_7;clear ho hb hg hat));try go_wp2_with (first|((with_reducible refine gate_builtin (b := .append) (xs:=#[.tmp 79, .tmp 81]) rfl ?_);at_builtin;refine Kd.R_append (Kd.int .i64) (w0:=w) w.heap.size rfl (.tmp 79) (.tmp 81) 76 3 (.int .i64 0) 8 rfl Tryd.underlying76 info3 rfl (by decide) (by omega) u7 x7_1 (-1) [.int .i64 (-1)] (fun k_=>some k_≠(.slice (some ad288) t278.length co22:Value).ownBlock) (fun _=>False) rfl rfl ?aP (fun _ hk=>hk.elim) ?aF ?aO ?aB ?aS ?aL ?_;(case aP=>exact rfl);(case aB=>exact bel_);(case aF=>exact(fun k_ hk=>Kd.fresh' (Kd.R_lt (pR_ HO_5.out)) k_ hk));(case aO=>exact(pR_ HO_7.out));(case aS=>exact(bsz bel_));(case aL=>have:=LMc21.out;omega);intro v293 w23 ho hb hg hat;rw[← Ny292.out] at ho;replace HO_5:=Aside0.mk (Kd.R_after (ok:=(fun _=>True)) (Kd.R_mono (pRm_ HO_5.out) (fun _ hk=>⟨trivial,hk⟩)) hg hat);replace HB:=Aside0.mk (hb);have HO294:=Aside0.mk (ho);clear HO_7;clear ho hb hg hat))))
                 go_roundg k2
                 (case measure=>have:=HK1.out;have:=HK2.out;omega);(case rel=>exact⟨(y292),(x8_2),(wrap64 (x9_1+1)),rs_,rs_,H',⟨by have:=HK1.out;have:=HK2.out;omega⟩,⟨Kd.R_mono (pRm_ HO_5.out) (fun _ hk=>hk.2)⟩,⟨pR_ HO294.out⟩,⟨bel_⟩⟩)
                (· exact nx_ c21 H)
              (· exact nx_ c18 H)
             (· exact nx_ c17 H)
            (· exact nx_ c15 H)
           (· exact nx_ c14 H)
         (· exact nx_ c9 H)
        (· exact nx_ c8 H)
       (· exact nx_ c7 H)
      ·
       (rw[if_neg c6] at H);have c6b0:decide (x8_2 < (l1.length:Int))=false:=decide_eq_false c6;clear c6
       by_cases c24:x7_1.length < 17592186044416
       ·
        (rw[if_pos c24] at H);have LMc24:=Aside0.mk c24;clear c24;obtain⟨y295,hy295⟩ : ∃ y_:List Int,y_=(x7_1 ++ [(-1)]):=⟨_,rfl⟩;((try rw[Option.bind_some] at H);rw[← hy295] at H);have Ny295:=Aside0.mk hy295;clear hy295;have H':=Aside0.mk H;clear H;(go_wp2_with (first|((with_reducible refine gate_builtin (b := .append) (xs:=#[.tmp 79, .tmp 81]) rfl ?_);at_builtin;refine Kd.R_append (Kd.int .i64) (w0:=w) w.heap.size rfl (.tmp 79) (.tmp 81) 76 3 (.int .i64 0) 8 rfl Tryd.underlying76 info3 rfl (by decide) (by omega) u7 x7_1 (-1) [.int .i64 (-1)] (fun k_=>some k_≠(v279:Value).ownBlock) (fun _=>False) rfl rfl ?aP (fun _ hk=>hk.elim) ?aF ?aO ?aB ?aS ?aL ?_;(case aP=>exact rfl);(case aB=>exact bel_);(case aF=>exact(fun k_ hk=>Kd.fresh' (Kd.R_lt (pR_ HO_5.out)) k_ hk));(case aO=>exact(pR_ HO_7.out));(case aS=>exact(bsz bel_));(case aL=>have:=LMc24.out;omega);intro v296 w25 ho hb hg hat;rw[← Ny295.out] at ho;replace HO_5:=Aside0.mk (Kd.R_after (ok:=(fun _=>True)) (Kd.R_mono (pRm_ HO_5.out) (fun _ hk=>⟨trivial,hk⟩)) hg hat);replace HB:=Aside0.mk (hb);have HO297:=Aside0.mk (ho);clear HO_7;clear ho hb hg hat)));(repeat(go_quiet (first|((with_reducible refine gate_builtin (b := .append) (xs:=#[.tmp 79, .tmp 81]) rfl ?_);at_builtin;refine Kd.R_append (Kd.int .i64) (w0:=w) w.heap.size rfl (.tmp 79) (.tmp 81) 76 3 (.int .i64 0) 8 rfl Tryd.underlying76 info3 rfl (by decide) (by omega) u7 x7_1 (-1) [.int .i64 (-1)] (fun k_=>some k_≠(v279:Value).ownBlock) (fun _=>False) rfl rfl ?aP (fun _ hk=>hk.elim) ?aF ?aO ?aB ?aS ?aL ?_;(case aP=>exact rfl);(case aB=>exact bel_);(case aF=>exact(fun k_ hk=>Kd.fresh' (Kd.R_lt (pR_ HO_5.out)) k_ hk));(case aO=>exact(pR_ HO_7.out));(case aS=>exact(bsz bel_));(case aL=>have:=LMc24.out;omega);intro v296 w25 ho hb hg hat;rw[← Ny295.out] at ho;replace HO_5:=Aside0.mk (Kd.R_after (ok:=(fun _=>True)) (Kd.R_mono (pRm_ HO_5.out) (fun _ hk=>⟨trivial,hk⟩)) hg hat);replace HB:=Aside0.mk (hb);have HO297:=Aside0.mk (ho);clear HO_7;clear ho hb hg hat));try go_wp2_with (first|((with_reducible refine gate_builtin (b := .append) (xs:=#[.tmp 79, .tmp 81]) rfl ?_);at_builtin;refine Kd.R_append (Kd.int .i64) (w0:=w) w.heap.size rfl (.tmp 79) (.tmp 81) 76 3 (.int .i64 0) 8 rfl Tryd.underlying76 info3 rfl (by decide) (by omega) u7 x7_1 (-1) [.int .i64 (-1)] (fun k_=>some k_≠(v279:Value).ownBlock) (fun _=>False) rfl rfl ?aP (fun _ hk=>hk.elim) ?aF ?aO ?aB ?aS ?aL ?_;(case aP=>exact rfl);(case aB=>exact bel_);(case aF=>exact(fun k_ hk=>Kd.fresh' (Kd.R_lt (pR_ HO_5.out)) k_ hk));(case aO=>exact(pR_ HO_7.out));(case aS=>exact(bsz bel_));(case aL=>have:=LMc24.out;omega);intro v296 w25 ho hb hg hat;rw[← Ny295.out] at ho;replace HO_5:=Aside0.mk (Kd.R_after (ok:=(fun _=>True)) (Kd.R_mono (pRm_ HO_5.out) (fun _ hk=>⟨trivial,hk⟩)) hg hat);replace HB:=Aside0.mk (hb);have HO297:=Aside0.mk (ho);clear HO_7;clear ho hb hg hat))))
        go_roundg k2
        (case measure=>have:=HK1.out;have:=HK2.out;omega);(case rel=>exact⟨(y295),(x8_2),(wrap64 (x9_1+1)),rs_,rs_,H',⟨by have:=HK1.out;have:=HK2.out;omega⟩,⟨Kd.R_mono (pRm_ HO_5.out) (fun _ hk=>hk.2)⟩,⟨pR_ HO297.out⟩,⟨bel_⟩⟩)
       (· exact nx_ c24 H)
   (· (rw[if_neg c5] at H);have c5b0:decide (x9_1 < (l0.length:Int))=false:=decide_eq_false c5;clear c5;obtain rfl:=Option.some.inj H;go_wp2;(repeat(go_quiet (fail);try go_wp2));go_ret;exact⟨_,ew_,Kd.R_mono (pRm_ HO_7.out) (fun _ hk=>trivial),bel_⟩)
def sennitref19_paired.l0:Nat→List (S57)→List ByteArray→List ByteArray→Int→Option (List Int)
  | 0,_,_,_,_=>none
  | k+1,x0,x1,x5,x6=>if x6 < (x0.length:Int) then (if 0≤x6 then (if x5.length < 8796093022208 then (sennitref19_paired.l0 k x0 x1 (x5 ++ [(rd_T57 x0 x6).f1]) (wrap64 (x6+1))) else (none)) else (none)) else ((sennitref02_All.f k (([x5,x1]:List (List ByteArray)))).bind fun t313=>(if 0 < (t313.length:Int) then (if 1 < (t313.length:Int) then ((sennitref03_Match.f k (rd_L13 t313 0) (rd_L13 t313 1)).bind fun t318=>(some t318)) else (none)) else (none)))
def sennitref19_paired.f (k:Nat) (l0:List (S57)) (l1:List ByteArray):Option (List Int):=sennitref19_paired.l0 k l0 l1 ([]:List ByteArray) 0
def sennitref19_paired.T7:Bool × List (List Nat × List Nat):=(true,[([],[]),([0],[0]),([1],[1]),([],[]),([3],[3]),([4],[4]),([2,5],[2,5]),([6,6,0,1,2,3,4,5,6],[6])])
def sennitref19_paired.B7:List Nat:=[0,1,3,0,8,24,63,127]
theorem sennitref19_paired.tab7:rtab .any (opsOf Tryd.f117 7)=sennitref19_paired.T7:=by kernel_rfl
theorem sennitref19_paired.bits7:waitsOk sennitref19_paired.T7.2 sennitref19_paired.B7=true:=by kernel_rfl
theorem sennitref19_paired.calls (k:Nat) (A0:Option Addr) (c0:Nat) (l0:List (S57)) (P1_:Nat→Prop) (A1:Option Addr) (c1:Nat) (l1:List ByteArray) (r:List Int) (w:World) (hr0:Kd.C k57 w A0 l0.length l0) (hc0:l0.length≤c0) (hs1:Kd.V Kd.string 9 w w.heap.size (fun k_=>P1_ k_) (.slice A1 l1.length c1) l1) (h:sennitref19_paired.f k l0 l1=some r) :
    Calls Tryd.prog 117 #[.slice A0 l0.length c0, .slice A1 l1.length c1] w fun e w' => ∃ v0_:Value,e = .returned (v0_)∧Kd.R (Kd.int .i64) 3 w' w.heap.size (fun k_=>(w.heap.size≤k_)) v0_ r∧Below w.heap.size w w':=by
 have HR0:=Aside0.mk hr0;have HC0:=Aside0.mk hc0;clear hr0 hc0;have HO1:=Aside0.mk (show Kd.V Kd.string 9 w w.heap.size (fun k_=>(P1_ k_∨w.heap.size≤k_)) (.slice A1 l1.length c1) l1 from Kd.V_mono hs1 (fun k_ hk => .inl hk));have HB:=Aside0.mk (Below.refl w.heap.size w);have H:=h;(rw[sennitref19_paired.f] at H);clear h;have H':=Aside0.mk H;clear H;go_enter Tryd.func117,Tryd.ntmps117;go_wp2
 go_loopg [5,6] k (fun kq v5 v6 w' => ∃ (x5_1:List ByteArray) (x6_1:Int),v6 = .int .i64 x6_1∧Aside0 (sennitref19_paired.l0 kq l0 l1 x5_1 x6_1=some r)∧Aside0 (kq≤k)∧Aside0 (Kd.V Kd.string 9 w' w.heap.size (fun k_=>(P1_ k_∨w.heap.size≤k_)∧some k_≠(v5:Value).ownBlock) (.slice A1 l1.length c1) l1)∧Aside0 (Kd.R Kd.string 9 w' w.heap.size (fun k_=>(w.heap.size≤k_)) v5 x5_1)∧Aside0 (Below w.heap.size w w'))
 (case atStart=>exact⟨(([]:List ByteArray)),(0),rs_,H',⟨Nat.le_refl _⟩,⟨Kd.V_mono (pV_ HO1.out) (fun _ hk=>⟨hk,(by simp[Value.ownBlock])⟩)⟩,⟨by first|exact Kd.R_nil _ _ _ _ _|exact Kd.N_nil _ _ _ _ _|exact Kd.V_nil _ _ _ _ _|exact Kd.Q_nil _ _ _ _ _|exact Kd.S_nil _ _ _ _ _⟩,⟨bel_⟩⟩)
 case round =>
  clear H';(try clear c1);(try clear p2);obtain⟨x5_1,x6_1,rfl,HA,HK1,HO_1,HO_5,HB⟩:=hrel
  cases gk with
  | zero=>exact absurd HA.out (by simp[sennitref19_paired.l0])
  | succ k1 =>
   have H:=HA.out;clear HA;(simp only[sennitref19_paired.l0] at H)
   by_cases c3:x6_1 < (l0.length:Int)
   ·
    (rw[if_pos c3] at H);have c3b0:decide (x6_1 < (l0.length:Int))=true:=decide_eq_true c3;clear c3
    by_cases c4:0≤x6_1
    ·
     (rw[if_pos c4] at H);have c4b0:decide (0≤x6_1)=true:=decide_eq_true c4;clear c4
     by_cases c5:x5_1.length < 8796093022208
     ·
      (rw[if_pos c5] at H);have LMc5:=Aside0.mk c5;clear c5;obtain⟨y307,hy307⟩ : ∃ y_:List ByteArray,y_=(x5_1 ++ [(rd_T57 l0 x6_1).f1]):=⟨_,rfl⟩;((try rw[Option.bind_some] at H);rw[← hy307] at H);have Ny307:=Aside0.mk hy307;clear hy307;have H':=Aside0.mk H;clear H;have p306:0≤(x6_1:Int):=dt_;have q306:x6_1 < (l0.length:Int):=dt_;obtain⟨ad306,e306,hx306_0,hx306_1⟩:=at_T57 HR0.out x6_1 p306 q306;cases e306;replace hx306_0:=(HB.out.cell (World.block_lt_of_cell? w _ hx306_0)).trans hx306_0;replace hx306_1:=(HB.out.cell (World.block_lt_of_cell? w _ hx306_1)).trans hx306_1;replace p306:=eq_true p306;replace q306:=eq_true q306;(go_wp2_with (first|((with_reducible refine gate_builtin (b := .append) (xs:=#[.tmp 14, .tmp 20]) rfl ?_);at_builtin;refine Kd.R_append Kd.string (w0:=w) w.heap.size rfl (.tmp 14) (.tmp 20) 23 9 (.string ⟨#[]⟩) 16 rfl Tryd.underlying23 info9 rfl (by decide) (by omega) u5 x5_1 ((rd_T57 l0 x6_1).f1) [.string ((rd_T57 l0 x6_1).f1)] (fun k_=>(w.heap.size≤k_)) (fun _=>False) rfl rfl ?aP (fun _ hk=>hk.elim) ?aF ?aO ?aB ?aS ?aL ?_;(case aP=>exact rfl);(case aB=>exact bel_);(case aF=>exact(fun k_ hk=>(Nat.le_trans (bsz bel_) hk)));(case aO=>exact(pR_ HO_5.out));(case aS=>exact(bsz bel_));(case aL=>have:=LMc5.out;omega);intro v308 w6 ho hb hg hat;rw[← Ny307.out] at ho;replace HO_1:=Aside0.mk (Kd.V_afterv (ok:=(fun k_=>(P1_ k_∨w.heap.size≤k_))) (pV_ HO_1.out) hg hat);replace HB:=Aside0.mk (hb);have HO309:=Aside0.mk (ho);clear HO_5;clear ho hb hg hat)))
      go_roundg k1
      (case measure=>have:=HK1.out;omega);(case rel=>exact⟨(y307),(wrap64 (x6_1+1)),rs_,H',⟨by have:=HK1.out;omega⟩,⟨pV_ HO_1.out⟩,⟨pR_ HO309.out⟩,⟨bel_⟩⟩)
     (· exact nx_ c5 H)
    (· exact nx_ c4 H)
   ·
    (rw[if_neg c3] at H);have c3b0:decide (x6_1 < (l0.length:Int))=false:=decide_eq_false c3;clear c3;obtain⟨y310,hy310⟩ : ∃ y_:List (List ByteArray),y_=(([x5_1,l1]:List (List ByteArray))):=⟨_,rfl⟩;((try rw[Option.bind_some] at H);rw[← hy310] at H);have Ny310:=Aside0.mk hy310;clear hy310;replace H:=Option.bind_eq_some_iff.mp H;obtain⟨t313,A70,H⟩:=H;(try dsimp only at H);have A7:=Aside0.mk A70;clear A70
    by_cases c8:0 < (t313.length:Int)
    ·
     (rw[if_pos c8] at H);have c8b0:decide (0 < (t313.length:Int))=true:=decide_eq_true c8;have c8b1:decide (0 < t313.length)=true:=decide_eq_true (by omega);clear c8
     by_cases c9:1 < (t313.length:Int)
     ·
      (rw[if_pos c9] at H);have c9b0:decide (1 < (t313.length:Int))=true:=decide_eq_true c9;have c9b1:decide (1 < t313.length)=true:=decide_eq_true (by omega);clear c9;replace H:=Option.bind_eq_some_iff.mp H;obtain⟨t318,A100,H⟩:=H;(try dsimp only at H);have A10:=Aside0.mk A100;clear A100;obtain rfl:=Option.some.inj H;obtain⟨Ao11,co11,eo11⟩:=Kd.R_slice HO_5.out;subst eo11;(try go_wp2_with (first|((with_reducible refine gate_dst (N:=24) rfl ?_);refine Kd.N_lit (Kd.slice 9 Kd.string) _ 23 ?hg (N':=24) ?hd (xs:=([x5_1,l1]:List (List ByteArray))) (inner:=[.slice Ao11 x5_1.length co11, .slice A1 l1.length c1]) (ok:=(fun k_=>(P1_ k_∨w.heap.size≤k_))) (okp:=(fun k_=>(P1_ k_∨w.heap.size≤k_))) ?hr ?hp (fun _ hk=>hk) ((show ∀ k_,wr.heap.size≤k_→(fun k_=>(P1_ k_∨w.heap.size≤k_)) k_ from fun k_ hk=>(.inr (Nat.le_trans (bsz bel_) hk))) _ (Nat.le_refl _)) (Below.refl _ _) (Nat.le_refl _) (by simp) ?_;(case hd=>rfl);(case hg=>rfl);(case hr=>first|(go_simp;done)|(go_simp;rfl));(case hp=>first|exact(Reps.one (show Kd.FK (Kd.slice 9 Kd.string) _ _ x5_1 [.slice Ao11 x5_1.length co11] from (Kd.FK_slice_mk (Kd.R_reads' (Kd.R_mono (ok':=(fun k_=>(P1_ k_∨w.heap.size≤k_))) (HO_5.out) (fun k_ hk=>(.inr (hk))))).2.1 (Kd.R_F (Kd.R_mono (ok':=(fun k_=>(P1_ k_∨w.heap.size≤k_))) (HO_5.out) (fun k_ hk=>(.inr (hk))))))) (Reps.one (show Kd.FK (Kd.slice 9 Kd.string) _ _ l1 [.slice A1 l1.length c1] from (Kd.FK_slice_mk (Kd.V_reads' (Kd.V_mono (ok':=(fun k_=>(P1_ k_∨w.heap.size≤k_))) (HO_1.out) (fun k_ hk=>hk.1))).2.1 (Kd.V_F (Kd.V_mono (ok':=(fun k_=>(P1_ k_∨w.heap.size≤k_))) (HO_1.out) (fun k_ hk=>hk.1))))) (Reps.none _ _)))|exact(Reps.one (show Kd.FK (Kd.slice 9 Kd.string) _ _ x5_1 [.slice Ao11 x5_1.length co11] from (Kd.FK_slice_mk (Kd.R_reads' (Kd.R_mono (ok':=(fun k_=>(P1_ k_∨w.heap.size≤k_))) (HO_5.out) (fun k_ hk=>(.inr (hk))))).2.1 (Kd.R_F (Kd.R_mono (ok':=(fun k_=>(P1_ k_∨w.heap.size≤k_))) (Kd.R_drewN HO_5.out _) (fun k_ hk=>(.inr (hk))))))) (Reps.one (show Kd.FK (Kd.slice 9 Kd.string) _ _ l1 [.slice A1 l1.length c1] from (Kd.FK_slice_mk (Kd.V_reads' (Kd.V_mono (ok':=(fun k_=>(P1_ k_∨w.heap.size≤k_))) (HO_1.out) (fun k_ hk=>hk.1))).2.1 (Kd.V_F (Kd.V_mono (ok':=(fun k_=>(P1_ k_∨w.heap.size≤k_))) (Kd.V_drewN HO_1.out _) (fun k_ hk=>hk.1))))) (Reps.none _ _))));intro v311 w12 ho13 hb hg_ hnew_;clear hg_ hnew_;(first|rw[← Ny310.out] at ho13|(simp only[Int.reduceToNat] at ho13;rw[← Ny310.out] at ho13));replace HO_1:=Aside0.mk (Kd.V_elder' (pV_ HO_1.out) (Kd.N_base ho13) hb);have HO312:=Aside0.mk (Kd.N_lower ho13 (bsz bel_));replace HB:=Aside0.mk (bst bel_ hb);clear HO_5;clear hb ho13;obtain⟨Ao14,co14,eo14⟩:=Kd.N_slice HO312.out;subst eo14)|((with_reducible refine gate_callee (f:=46) rfl ?_);refine goesL_ (some 25) rfl rfl Tryd.func46 (by kernel_rfl) rfl #[.slice Ao14 y310.length co14] rfl am_ ?_;(with_reducible refine(sennitref02_All.calls k1 _ _ y310 t313 _ ?side1 ?side2 A7.out).mono ?_);(case side1=>repeat(first|exact(Kd.N_reads' HO312.out).2.2|(with_reducible refine Kd.C_alloc ?_ _)|(with_reducible refine Kd.C_drewN ?_ _)|(with_reducible refine Kd.C_drew ?_)));(case side2=>exact(Kd.N_reads' HO312.out).2.1);rintro e w15 ⟨v314,rfl,ho0,hb⟩;refine⟨_,rfl,?_⟩;replace HO_1:=Aside0.mk (Kd.V_elder' (pV_ HO_1.out) (Kd.N_base (Kd.S_N ho0)) hb);have HO315:=Aside0.mk (Kd.N_lower (Kd.N_mono (ok':=fun k_=>(P1_ k_∨w.heap.size≤k_)∧some k_≠(.slice Ao14 y310.length co14:Value).ownBlock) (Kd.S_N (Kd.S_bound ho0)) (fun k_ hk_=>⟨(.inr (Nat.le_trans (bsz bel_) hk_.2.1)),(Kd.fresh' (Kd.N_lt (pN_ HO312.out)) k_ hk_.2.1)⟩)) (bsz bel_));replace HO312:=Aside0.mk (Kd.N_elder' (pN_ HO312.out) (Kd.N_base (Kd.S_N ho0)) hb);replace HB:=Aside0.mk (bst bel_ hb);(try clear hb);(try clear hb2);(try clear hk);(try clear hi);(try clear ho0))));replace HO_1:=Aside0.mk (Kd.V_drew HO_1.out);replace HO312:=Aside0.mk (Kd.N_drew HO312.out);replace HO315:=Aside0.mk (Kd.N_drew HO315.out);replace HB:=Aside0.mk (below_drew1 HB.out);obtain⟨Ao17,co17,eo17⟩:=Kd.N_slice HO315.out
      (first|subst eo17|(injection eo17 with f1_ f2_ f3_;have f4_:=f1_.symm;have f5_:=f3_.symm;clear f1_ f2_ f3_;subst f4_;subst f5_));have p316:0≤(0:Int):=(by omega);have q316:0 < (t313.length:Int):=dt_;obtain⟨ad316,A316_0,c316_0,e316,hx316_0,hl316_0,hi316_0⟩:=at_L13 (Kd.N_reads' HO315.out).2.2 0 p316 q316;cases e316;obtain⟨ce316,hce316,hMe316,hcc316⟩:=Kd.N_get HO315.out [] 0 p316 (by first|exact q316|exact dt_|(have e_:=(Kd.N_reads' HO315.out).1;omega));obtain⟨ua316_0,uc316_0,rfl,ul316_0,ge316_0⟩:=Kd.FK_slice_open hMe316;have hv316_0:=hcc316 0 _ rfl;(rw[Nat.add_zero,show ((Kd.slice 3 (Kd.int .i64))).sz=1 from rfl,Nat.mul_one] at hv316_0);replace hv316_0:=Option.some.inj (hv316_0.symm.trans hx316_0);(injection hv316_0 with hva_ hvn_ hvc_);(rw[hva_] at ge316_0);(rw[hvc_] at ul316_0);have HL316_0:=Aside0.mk (show Kd.V (Kd.int .i64) 3 _ w.heap.size _ _ (rd_L13 t313 0) from Kd.V_mk ul316_0 ge316_0);clear hva_ hvn_ hvc_ ge316_0 ul316_0;clear hcc316 hce316;have qi316:(0 < t313.length)=True:=eq_true (by omega);(try rw[show ((0:Int)).toNat=0 from rfl] at hx316_0);(try rw[Addr.add_zero'] at hx316_0);have HR316_0:=Aside0.mk hi316_0;have HC316_0:=Aside0.mk hl316_0;clear hi316_0 hl316_0;replace p316:=eq_true p316;replace q316:=eq_true q316;have p317:0≤(1:Int):=(by omega);have q317:1 < (t313.length:Int):=dt_;obtain⟨ad317,A317_0,c317_0,e317,hx317_0,hl317_0,hi317_0⟩:=at_L13 (Kd.N_reads' HO315.out).2.2 1 p317 q317;obtain rfl:ad316=ad317:=(by injection e317);obtain⟨ce317,hce317,hMe317,hcc317⟩:=Kd.N_get HO315.out [] 1 p317 (by first|exact q317|exact dt_|(have e_:=(Kd.N_reads' HO315.out).1;omega));obtain⟨ua317_0,uc317_0,rfl,ul317_0,ge317_0⟩:=Kd.FK_slice_open hMe317;have hv317_0:=hcc317 0 _ rfl;(rw[Nat.add_zero,show ((Kd.slice 3 (Kd.int .i64))).sz=1 from rfl,Nat.mul_one] at hv317_0);replace hv317_0:=Option.some.inj (hv317_0.symm.trans hx317_0);(injection hv317_0 with hva_ hvn_ hvc_);(rw[hva_] at ge317_0);(rw[hvc_] at ul317_0);have HL317_0:=Aside0.mk (show Kd.V (Kd.int .i64) 3 _ w.heap.size _ _ (rd_L13 t313 1) from Kd.V_mk ul317_0 ge317_0);clear hva_ hvn_ hvc_ ge317_0 ul317_0;clear hcc317 hce317;(try simp only[show (1:Int).toNat=1 from rfl,Nat.reduceMul,Nat.reduceEqDiff,Go.Addr.add, ↓reduceIte] at hx317_0);have qi317:(1 < t313.length)=True:=eq_true (by omega);(try rw[show ((1:Int)).toNat=1 from rfl] at hx317_0);have HR317_0:=Aside0.mk hi317_0;have HC317_0:=Aside0.mk hl317_0;clear hi317_0 hl317_0;replace p317:=eq_true p317;replace q317:=eq_true q317;(refine start_ (n:=8) (S:=fun w'=>w'.cell? ad316=some (.slice A316_0 (rd_L13 t313 0).length c316_0)∧w'.cell? ⟨ad316.block,ad316.off+1,none⟩=some (.slice A317_0 (rd_L13 t313 1).length c317_0)) (ds:=[]) (bm_ 8 0) (by kernel_rfl) rfl rfl ⟨hx316_0,hx317_0⟩ (fun hHeld=>?_);refine with_tabW sennitref19_paired.tab7 sennitref19_paired.bits7 (fun HT_ HW_=>?_));(generalize w15.drew=w16 at HO_1 HO312 HO315 HB HL316_0 HL317_0 HR316_0 HR317_0 hx316_0 hx317_0 hHeld ⊢);refine pq_ (i:=0) (N:=some 26) (hc:=any_of HT_.out (by kernel_rfl)) (bm_ 8 1) ?_;refine pq_ (i:=1) (N:=some 27) (hc:=any_of HT_.out (by kernel_rfl)) (bm_ 8 3) ?_;refine pq_ (i:=3) (N:=some 29) (hc:=any_of HT_.out (by kernel_rfl)) (bm_ 8 11) ?_;refine pq_ (i:=4) (N:=some 30) (hc:=any_of HT_.out (by kernel_rfl)) (bm_ 8 27) ?_;refine tq_ (i:=2) (N:=some 28) (hc:=take_ofW HT_.out HW_.out (by kernel_rfl)) (bm_ 8 31) hHeld ?_;refine tq_ (i:=5) (N:=some 31) (hc:=take_ofW HT_.out HW_.out (by kernel_rfl)) (bm_ 8 63) hHeld ?_;refine one_ (i:=6) (N:=some 32) (bm_ 8 127) rfl rfl (one_of HT_.out (by kernel_rfl)) (by decide) (fun K hK=>?_)
      refine goes_ Tryd.func47 (by kernel_rfl) rfl #[.slice A316_0 (rd_L13 t313 0).length c316_0, .slice A317_0 (rd_L13 t313 1).length c317_0] (by rfl) rfl rfl am_ ?_;(with_reducible refine(sennitref03_Match.calls k1 _ _ (rd_L13 t313 0) _ _ (rd_L13 t313 1) t318 _ ?side1 ?side2 ?side3 ?side4 A10.out).mono ?_);(case side1=>exact pC_ HR316_0.out);(case side2=>exact HC316_0.out);(case side3=>exact pC_ HR317_0.out);(case side4=>exact HC317_0.out);rintro e w18 ⟨v319,rfl,ho0,hb⟩;have HS0_:=(hb.cell (World.block_lt_of_cell? _ _ (hHeld.1))).trans (hHeld.1);have HS1_:=(hb.cell (World.block_lt_of_cell? _ _ (hHeld.2))).trans (hHeld.2);refine⟨_,rfl,?_⟩;replace HO_1:=Aside0.mk (Kd.V_elder' (pV_ HO_1.out) (Kd.R_base ho0) hb);replace HO312:=Aside0.mk (Kd.N_elder' (pN_ HO312.out) (Kd.R_base ho0) hb);replace HO315:=Aside0.mk (Kd.N_elder' (pN_ HO315.out) (Kd.R_base ho0) hb);replace HL316_0:=Aside0.mk (Kd.V_elder' (pV_ HL316_0.out) (Kd.R_base ho0) hb);replace HL317_0:=Aside0.mk (Kd.V_elder' (pV_ HL317_0.out) (Kd.R_base ho0) hb);have HO320:=Aside0.mk (Kd.R_lower (Kd.R_newM (M:=fun k_=>(w.heap.size≤k_)) ho0 (bsz bel_) (fun k_ h_=>h_)) (bsz bel_));replace HR316_0:=Aside0.mk (Kd.C_below (pC_ HR316_0.out) hb);replace HR317_0:=Aside0.mk (Kd.C_below (pC_ HR317_0.out) hb);replace HB:=Aside0.mk (bst bel_ hb);(try clear hb);(try clear hb2);(try clear hk);(try clear hi);(try clear ho0);refine hK.out _ _ ⟨HS0_,HS1_⟩ (fun hHeld=>?_);clear hK K;refine nq_ (N:=some 32) ?_;refine pq_ (i:=7) (N:=some 4) (hc:=any_of HT_.out (by kernel_rfl)) (bm_ 8 255) ?_;refine done_ (done_of HT_.out (by kernel_rfl)) ?_;(try go_wp2);go_ret;exact⟨_,ew_,Kd.R_mono (pRm_ HO320.out) (fun _ hk=>hk.1),bel_⟩
     (· exact nx_ c9 H)
    (· exact nx_ c8 H)
def sennitref19_blanks.l0:Nat→Int→Int→ByteArray→Int→Option (ByteArray)
  | 0,_,_,_,_=>none
  | k+1,x0,x1,x5,x6=>if x6 < x0 then (if x6=x1 then (if x5.size+1≤9223372036854775807 then (sennitref19_blanks.l0 k x0 x1 (x5 ++ (⟨#[45]⟩:ByteArray)) (wrap64 (x6+1))) else (none)) else (if x5.size+1≤9223372036854775807 then (sennitref19_blanks.l0 k x0 x1 (x5 ++ (⟨#[32]⟩:ByteArray)) (wrap64 (x6+1))) else (none))) else (some x5)
def sennitref19_blanks.f (k:Nat) (a0:Int) (a1:Int):Option (ByteArray):=sennitref19_blanks.l0 k a0 a1 (⟨#[]⟩:ByteArray) 0
theorem sennitref19_blanks.calls (k:Nat) (a0:Int) (a1:Int) (r:ByteArray) (w:World) (h:sennitref19_blanks.f k a0 a1=some r) :
    Calls Tryd.prog 118 #[.int .i64 a0, .int .i64 a1] w fun e w'=>e = .returned (.string r)∧Drawn0 w w':=by
 have H:=h;(rw[sennitref19_blanks.f] at H);clear h;have H':=Aside0.mk H;clear H;go_enter Tryd.func118,Tryd.ntmps118;go_wp2
 go_loopg [5,6] k (fun kq v5 v6 w' => ∃ (x5_1:ByteArray) (x6_1:Int),v5 = .string x5_1∧v6 = .int .i64 x6_1∧Aside0 (sennitref19_blanks.l0 kq a0 a1 x5_1 x6_1=some r)∧Aside0 (kq≤k)∧Drawn0 w w')
 (case atStart=>exact⟨((⟨#[]⟩:ByteArray)),(0),rs_,rs_,H',⟨Nat.le_refl _⟩,d0_⟩)
 case round =>
  clear H';(try clear c1);(try clear p2);obtain⟨x5_1,x6_1,rfl,rfl,HA,HK1,⟨m1,rfl⟩⟩:=hrel
  cases gk with
  | zero=>exact absurd HA.out (by simp[sennitref19_blanks.l0])
  | succ k1 =>
   have H:=HA.out;clear HA;(simp only[sennitref19_blanks.l0] at H)
   by_cases c3:x6_1 < a0
   ·
    (rw[if_pos c3] at H);have c3b0:decide (x6_1 < a0)=true:=decide_eq_true c3;clear c3
    by_cases c4:x6_1=a1
    ·
     (rw[if_pos c4] at H);have c4b0:(x6_1 == a1)=true:=beq_iff_eq.mpr c4;have c4b1:(x6_1 != a1)=false:=bne_eq_false_iff_eq.mpr c4;clear c4
     by_cases c5:x5_1.size+1≤9223372036854775807
     ·
      (rw[if_pos c5] at H);have c5b0:=eq_true c5;have c5b1:decide (x5_1.size+1≤9223372036854775807)=true:=decide_eq_true c5;(try have c5b2:(9223372036854775807 < x5_1.size+1)=False:=eq_false (Nat.not_lt.2 c5));have H':=Aside0.mk H;clear H;go_wp2
      go_roundg k1
      (case measure=>have:=HK1.out;omega);(case rel=>exact⟨(x5_1 ++ (⟨#[45]⟩:ByteArray)),(wrap64 (x6_1+1)),rs_,rs_,H',⟨by have:=HK1.out;omega⟩,d0_⟩)
     (· exact nx_ c5 H)
    ·
     (rw[if_neg c4] at H);have c4b0:(x6_1 == a1)=false:=beq_eq_false_iff_ne.mpr c4;have c4b1:(x6_1 != a1)=true:=bne_iff_ne.mpr c4
     by_cases c6:x5_1.size+1≤9223372036854775807
     ·
      (rw[if_pos c6] at H);have c6b0:=eq_true c6;have c6b1:decide (x5_1.size+1≤9223372036854775807)=true:=decide_eq_true c6;(try have c6b2:(9223372036854775807 < x5_1.size+1)=False:=eq_false (Nat.not_lt.2 c6));have H':=Aside0.mk H;clear H;go_wp2
      go_roundg k1
      (case measure=>have:=HK1.out;omega);(case rel=>exact⟨(x5_1 ++ (⟨#[32]⟩:ByteArray)),(wrap64 (x6_1+1)),rs_,rs_,H',⟨by have:=HK1.out;omega⟩,d0_⟩)
     (· exact nx_ c6 H)
   (· (rw[if_neg c3] at H);have c3b0:decide (x6_1 < a0)=false:=decide_eq_false c3;clear c3;obtain rfl:=Option.some.inj H;go_wp2;go_ret;exact⟨by first|rfl|(simp;done)|(simp[*];done),d0_⟩)
mutual
def sennitref19_come.l0:Nat→List (S57)→List ByteArray→Int→List Int→List (S57)→Int→Int→Option ((List (S57)))
  | 0,_,_,_,_,_,_,_=>none
  | k+1,x0,x1,x2,x7,x8,x9,x10=>if x10≤(x0.length:Int) then (if x10 < (x0.length:Int) then (if 0≤x10 then (if x10 < (x7.length:Int) then (sennitref19_come.j1 k x0 x1 x2 x7 x8 x9 x10 (rd x7 x10)) else (none)) else (none)) else (sennitref19_come.j1 k x0 x1 x2 x7 x8 x9 x10 (x1.length:Int))) else (some x8)
def sennitref19_come.j1:Nat→List (S57)→List ByteArray→Int→List Int→List (S57)→Int→Int→Int→Option ((List (S57)))
  | 0,_,_,_,_,_,_,_,_=>none
  | k+1,x0,x1,x2,x7,x8,x9,x10,x11=>sennitref19_come.l1 k x0 x1 x2 x7 x8 x9 x10 x11
def sennitref19_come.j3:Nat→List (S57)→List ByteArray→Int→List Int→List (S57)→Int→Int→Int→Option ((List (S57)))
  | 0,_,_,_,_,_,_,_,_=>none
  | k+1,x0,x1,x2,x7,x8,x9,x10,x11=>if x10 < (x0.length:Int) then (if x11 ≥ 0 then (if 0≤x10 then (if ((rd_T57 x0 x10).f0).size+1≤9223372036854775807 then (if x8.length < 4398046511104 then (sennitref19_come.l0 k x0 x1 x2 x7 (x8 ++ [(⟨((rd_T57 x0 x10).f0) ++ (⟨#[45]⟩:ByteArray),(rd_T57 x0 x10).f1⟩:S57)]) (wrap64 (x9+1)) (wrap64 (x10+1))) else (none)) else (none)) else (none)) else (if 0≤x10 then (if ((rd_T57 x0 x10).f0).size+1≤9223372036854775807 then (if x8.length < 4398046511104 then (sennitref19_come.l0 k x0 x1 x2 x7 (x8 ++ [(⟨((rd_T57 x0 x10).f0) ++ (⟨#[32]⟩:ByteArray),(rd_T57 x0 x10).f1⟩:S57)]) x9 (wrap64 (x10+1))) else (none)) else (none)) else (none))) else (sennitref19_come.l0 k x0 x1 x2 x7 x8 x9 (wrap64 (x10+1)))
def sennitref19_come.l1:Nat→List (S57)→List ByteArray→Int→List Int→List (S57)→Int→Int→Int→Option ((List (S57)))
  | 0,_,_,_,_,_,_,_,_=>none
  | k+1,x0,x1,x2,x7,x8,x9,x10,x11=>if x11 ≥ 0 then (if x9 < x11 then ((sennitref19_blanks.f k (wrap64 (x2+1)) x2).bind fun t325=>(if 0≤x9 then (if x9 < (x1.length:Int) then (if x8.length < 4398046511104 then (sennitref19_come.l1 k x0 x1 x2 x7 (x8 ++ [(⟨t325,rdOf ByteArray.empty x1 x9⟩:S57)]) (wrap64 (x9+1)) x10 x11) else (none)) else (none)) else (none))) else (sennitref19_come.j3 k x0 x1 x2 x7 x8 x9 x10 x11)) else (sennitref19_come.j3 k x0 x1 x2 x7 x8 x9 x10 x11)
end
def sennitref19_come.f (k:Nat) (l0:List (S57)) (l1:List ByteArray) (a2:Int):Option ((List (S57))):=(sennitref19_paired.f k l0 l1).bind fun t321=>(sennitref19_come.l0 k l0 l1 a2 t321 ([]:List (S57)) 0 0)
def sennitref19_come.T11:Bool × List (List Nat × List Nat):=(true,[([],[]),([],[]),([1],[1]),([],[]),([2,3],[2,3]),([],[]),([],[]),([5,6],[5,6]),([7],[7]),([4,8],[4,8]),([9],[9]),([0,10,4],[0,10]),([11,11,0,1,2,3,4,5,6,7,8,9,10,11],[0,11])])
def sennitref19_come.B11:List Nat:=[0,0,2,0,14,0,0,96,224,510,1022,2047,4095]
theorem sennitref19_come.tab11:rtab .any (opsOf Tryd.f102 11)=sennitref19_come.T11:=by kernel_rfl
theorem sennitref19_come.bits11:waitsOk sennitref19_come.T11.2 sennitref19_come.B11=true:=by kernel_rfl
def sennitref19_come.T18:Bool × List (List Nat × List Nat):=(true,[([],[]),([],[]),([],[]),([1,2],[1,2]),([3],[3]),([4],[4]),([],[]),([5,6],[5,6]),([],[]),([],[]),([8,9],[8,9]),([10],[10]),([11],[11]),([7,12],[7,12]),([13],[13]),([0,14],[0,14]),([15,15,0,1,2,3,4,5,6,7,8,9,10,11,12,13,14,15],[0,15])])
def sennitref19_come.B18:List Nat:=[0,0,0,6,14,30,0,126,0,0,768,1792,3840,8190,16382,32767,65535]
theorem sennitref19_come.tab18:rtab .any (opsOf Tryd.f102 18)=sennitref19_come.T18:=by kernel_rfl
theorem sennitref19_come.bits18:waitsOk sennitref19_come.T18.2 sennitref19_come.B18=true:=by kernel_rfl
theorem sennitref19_come.calls (k:Nat) (A0:Option Addr) (c0:Nat) (l0:List (S57)) (A1:Option Addr) (c1:Nat) (l1:List ByteArray) (a2:Int) (r:List (S57)) (w:World) (hr0:Kd.C k57 w A0 l0.length l0) (hc0:l0.length≤c0) (hr1:Kd.C Kd.string w A1 l1.length l1) (hc1:l1.length≤c1) (h:sennitref19_come.f k l0 l1 a2=some r) :
    Calls Tryd.prog 102 #[.slice A0 l0.length c0, .slice A1 l1.length c1, .int .i64 a2] w fun e w' => ∃ v0_:Value,e = .returned (v0_)∧Kd.R k57 57 w' w.heap.size (fun _=>True) v0_ r∧Below w.heap.size w w':=by
 have hu57:=Tryd.underlying57;have HR0:=Aside0.mk hr0;have HC0:=Aside0.mk hc0;clear hr0 hc0;have HR1:=Aside0.mk hr1;have HC1:=Aside0.mk hc1;clear hr1 hc1;have HB:=Aside0.mk (Below.refl w.heap.size w);have H:=h;(rw[sennitref19_come.f] at H);clear h;replace H:=Option.bind_eq_some_iff.mp H;obtain⟨t321,A40,H⟩:=H;(try dsimp only at H);have A4:=Aside0.mk A40;clear A40;have H':=Aside0.mk H;clear H;go_enter Tryd.func102,Tryd.ntmps102;(go_wp2_with (first|((with_reducible refine gate_callee (f:=117) rfl ?_);refine goesL_ (some 15) rfl rfl Tryd.func117 (by kernel_rfl) rfl #[.slice A0 l0.length c0, .slice A1 l1.length c1] rfl am_ ?_;(with_reducible refine(sennitref19_paired.calls k _ _ l0 (fun k_=>k_ < w.heap.size) _ _ l1 t321 _ ?side1 ?side2 ?side3 A4.out).mono ?_);(case side1=>exact pC_ HR0.out);(case side2=>exact HC0.out);(case side3=>exact Kd.V_mk HC1.out (Kd.F_below (Kd.C_F Kd.heap_string HR1.out) bel_));rintro e w5 ⟨v322,rfl,ho0,hb⟩;refine⟨_,rfl,?_⟩;have HO323:=Aside0.mk (Kd.R_lower (Kd.R_mono (ok':=fun k_=>True) ho0 (fun _ hk_=>trivial)) (bsz bel_));replace HB:=Aside0.mk (bst bel_ hb);(try clear hb);(try clear hb2);(try clear hk);(try clear hi);(try clear ho0))))
 go_loopg [8,9,10] k (fun kq v8 v9 v10 w' => ∃ (x8_1:List (S57)) (x9_1:Int) (x10_1:Int),v9 = .int .i64 x9_1∧v10 = .int .i64 x10_1∧Aside0 (sennitref19_come.l0 kq l0 l1 a2 t321 x8_1 x9_1 x10_1=some r)∧Aside0 (kq≤k)∧Aside0 (Kd.R (Kd.int .i64) 3 w' w.heap.size (fun _=>True) v322 t321)∧Aside0 (Kd.R k57 57 w' w.heap.size (fun _=>True) v8 x8_1)∧Aside0 (Below w.heap.size w w'))
 (case atStart=>exact⟨(([]:List (S57))),(0),(0),rs_,rs_,H',⟨Nat.le_refl _⟩,⟨pR_ HO323.out⟩,⟨by first|exact Kd.R_nil _ _ _ _ _|exact Kd.N_nil _ _ _ _ _|exact Kd.V_nil _ _ _ _ _|exact Kd.Q_nil _ _ _ _ _|exact Kd.S_nil _ _ _ _ _⟩,⟨bel_⟩⟩)
 case round =>
  clear H';(try clear c1);(try clear p2);obtain⟨x8_1,x9_1,x10_1,rfl,rfl,HA,HK1,HO_7,HO_8,HB⟩:=hrel
  cases gk with
  | zero=>exact absurd HA.out (by simp[sennitref19_come.l0])
  | succ k1 =>
   have H:=HA.out;clear HA;(simp only[sennitref19_come.l0] at H)
   by_cases c6:x10_1≤(l0.length:Int)
   ·
    (rw[if_pos c6] at H);have c6b0:decide (x10_1≤(l0.length:Int))=true:=decide_eq_true c6;clear c6;have HC7:=Aside0.mk H;clear H
    go_upto_if 27 with (fail)
    go_cut [11] (fun v11 wc => ∃ (kq:Nat) (x11_6:Int),v11 = .int .i64 x11_6∧Aside0 (sennitref19_come.j1 kq l0 l1 a2 t321 x8_1 x9_1 x10_1 x11_6=some r)∧Aside0 (kq≤k1)∧Aside0 (Kd.R (Kd.int .i64) 3 wc w.heap.size (fun _=>True) v322 t321)∧Aside0 (Kd.R k57 57 wc w.heap.size (fun _=>True) u8 x8_1)∧Aside0 (Below w.heap.size w wc))
    case first =>
     have H:=HC7.out;clear HC7
     by_cases c8:x10_1 < (l0.length:Int)
     ·
      (rw[if_pos c8] at H);have c8b0:decide (x10_1 < (l0.length:Int))=true:=decide_eq_true c8;clear c8;(first|rw[c8b0]|(simp only[i64_w,i32_w];rw[c8b0])|skip)
      by_cases c9:0≤x10_1
      ·
       (rw[if_pos c9] at H);have c9b0:decide (0≤x10_1)=true:=decide_eq_true c9;clear c9
       by_cases c10:x10_1 < (t321.length:Int)
       ·
        (rw[if_pos c10] at H);have c10b0:decide (x10_1 < (t321.length:Int))=true:=decide_eq_true c10;clear c10;have H':=Aside0.mk H;clear H;obtain⟨Ao11,co11,eo11⟩:=Kd.R_slice HO_7.out;subst eo11;have p324:0≤(x10_1:Int):=dt_;have q324:x10_1 < (t321.length:Int):=dt_;obtain⟨ad324,e324,hx324_0⟩:=Kd.at_int (Kd.R_reads' HO_7.out).2.2 x10_1 p324 q324;cases e324;replace p324:=eq_true p324;replace q324:=eq_true q324;go_wp2
        go_meet
        (case rel=>exact⟨_,(rd t321 x10_1),rs_,H',⟨by have:=HK1.out;first|omega|exact Nat.le_refl _⟩,⟨pR_ HO_7.out⟩,⟨pR_ HO_8.out⟩,⟨bel_⟩⟩)
       (· exact nx_ c10 H)
      (· exact nx_ c9 H)
     ·
      (rw[if_neg c8] at H);have c8b0:decide (x10_1 < (l0.length:Int))=false:=decide_eq_false c8;clear c8;(first|rw[c8b0]|(simp only[i64_w,i32_w];rw[c8b0])|skip);have H':=Aside0.mk H;clear H;go_wp2
      go_meet
      (case rel=>exact⟨_,((l1.length:Int)),rs_,H',⟨by have:=HK1.out;first|omega|exact Nat.le_refl _⟩,⟨pR_ HO_7.out⟩,⟨pR_ HO_8.out⟩,⟨bel_⟩⟩)
    case rest =>
     clear HC7;(try clear c1);(try clear p2);(try clear p3);(try clear q3);(try clear hx3);(try clear c6);(try clear c6b0);(try clear c8);(try clear c8b0);(try clear c9);(try clear c9b0);(try clear c10);(try clear c10b0);(try clear c11);(try clear hx324_0);(try clear p2);(try clear p324);(try clear q324);obtain⟨kq,x11_6,rfl,HA,HJ6,HO_7,HO_8,HB⟩:=hcut
     cases kq with
     | zero=>exact absurd HA.out (by simp[sennitref19_come.j1])
     | succ kj6 =>
      have H:=HA.out;clear HA;(simp only[sennitref19_come.j1] at H);have HC12:=Aside0.mk H;clear H
      go_upto_block 2 with (fail)
      go_cut [8,9] (fun v8 v9 wc => ∃ (kq:Nat) (x8_11:List (S57)) (x9_11:Int),v9 = .int .i64 x9_11∧Aside0 (sennitref19_come.j3 kq l0 l1 a2 t321 x8_11 x9_11 x10_1 x11_6=some r)∧Aside0 (kq≤kj6)∧Aside0 (Kd.R (Kd.int .i64) 3 wc w.heap.size (fun _=>True) v322 t321)∧Aside0 (Kd.R k57 57 wc w.heap.size (fun _=>True) v8 x8_11)∧Aside0 (Below w.heap.size w wc))
      case first =>
       have H:=HC12.out;clear HC12;have H':=Aside0.mk H;clear H;go_wp2
       go_loopg [8,9] kj6 (fun kq v8 v9 w' => ∃ (x8_3:List (S57)) (x9_3:Int),v9 = .int .i64 x9_3∧Aside0 (sennitref19_come.l1 kq l0 l1 a2 t321 x8_3 x9_3 x10_1 x11_6=some r)∧Aside0 (kq≤kj6)∧Aside0 (Kd.R (Kd.int .i64) 3 w' w.heap.size (fun _=>True) v322 t321)∧Aside0 (Kd.R k57 57 w' w.heap.size (fun _=>True) v8 x8_3)∧Aside0 (Below w.heap.size w w'))
       (case atStart=>exact⟨(x8_1),(x9_1),rs_,H',⟨Nat.le_refl _⟩,⟨pR_ HO_7.out⟩,⟨pR_ HO_8.out⟩,⟨bel_⟩⟩)
       case round =>
        clear H';(try clear c1);(try clear p2);(try clear p3);(try clear q3);(try clear hx3);(try clear c6);(try clear c6b0);(try clear c8);(try clear c8b0);(try clear c9);(try clear c9b0);(try clear c10);(try clear c10b0);(try clear c11);(try clear hx324_0);(try clear p2);(try clear p3);(try clear p324);(try clear q3);(try clear q324);obtain⟨x8_3,x9_3,rfl,HA,HK3,HO_7,HO_8,HB⟩:=hrel
        cases gk with
        | zero=>exact absurd HA.out (by simp[sennitref19_come.l1])
        | succ k3 =>
         have H:=HA.out;clear HA;(simp only[sennitref19_come.l1] at H)
         by_cases c13:x11_6 ≥ 0
         ·
          (rw[if_pos c13] at H);have c13b0:decide (0≤x11_6)=true:=decide_eq_true c13;clear c13;(first|rw[c13b0]|(simp only[i64_w,i32_w];rw[c13b0])|skip)
          by_cases c14:x9_3 < x11_6
          ·
           (rw[if_pos c14] at H);have c14b0:decide (x9_3 < x11_6)=true:=decide_eq_true c14;clear c14;replace H:=Option.bind_eq_some_iff.mp H;obtain⟨t325,A150,H⟩:=H;(try dsimp only at H);have A15:=Aside0.mk A150;clear A150
           by_cases c16:0≤x9_3
           ·
            (rw[if_pos c16] at H);have c16b0:decide (0≤x9_3)=true:=decide_eq_true c16;clear c16
            by_cases c17:x9_3 < (l1.length:Int)
            ·
             (rw[if_pos c17] at H);have c17b0:decide (x9_3 < (l1.length:Int))=true:=decide_eq_true c17;clear c17
             by_cases c18:x8_3.length < 4398046511104
             ·
              (rw[if_pos c18] at H);have LMc18:=Aside0.mk c18;clear c18;obtain⟨y327,hy327⟩ : ∃ y_:List (S57),y_=(x8_3 ++ [(⟨t325,rdOf ByteArray.empty l1 x9_3⟩:S57)]):=⟨_,rfl⟩;((try rw[Option.bind_some] at H);rw[← hy327] at H);have Ny327:=Aside0.mk hy327;clear hy327;have H':=Aside0.mk H;clear H;(try go_wp2);replace HO_7:=Aside0.mk (Kd.R_drew HO_7.out);replace HO_8:=Aside0.mk (Kd.R_drew HO_8.out);replace HB:=Aside0.mk (below_drew1 HB.out);have p326:0≤(x9_3:Int):=dt_;have q326:x9_3 < (l1.length:Int):=dt_;obtain⟨ad326,e326,hx326_0⟩:=Kd.at_string HR1.out x9_3 p326 q326;have hw326_0:=hx326_0;cases e326;replace hx326_0:=(HB.out.cell (World.block_lt_of_cell? w _ hx326_0)).trans hx326_0;replace p326:=eq_true p326;replace q326:=eq_true q326;(refine start_ (n:=13) (S:=fun w'=>w'.cell? (ad326.add (x9_3).toNat)=some (.string (rdOf ByteArray.empty l1 x9_3))) (ds:=[]) (bm_ 13 0) (by kernel_rfl) rfl rfl (((HB.out.cell (World.block_lt_of_cell? w _ hw326_0)).trans hw326_0)) (fun hHeld=>?_);refine with_tabW sennitref19_come.tab11 sennitref19_come.bits11 (fun HT_ HW_=>?_));(generalize wr.drew=w19 at HO_7 HO_8 HB hx326_0 hHeld ⊢);refine pq_ (i:=0) (N:=some 39) (hc:=any_of HT_.out (by kernel_rfl)) (bm_ 13 1) ?_;refine pq_ (i:=1) (N:=some 40) (hc:=any_of HT_.out (by kernel_rfl)) (bm_ 13 3) ?_;refine pq_ (i:=2) (N:=some 41) (hc:=any_of HT_.out (by kernel_rfl)) (bm_ 13 7) ?_;refine pq_ (i:=3) (N:=some 42) (hc:=any_of HT_.out (by kernel_rfl)) (bm_ 13 15) ?_;refine pq_ (i:=5) (N:=some 44) (hc:=any_of HT_.out (by kernel_rfl)) (bm_ 13 47) ?_;refine pq_ (i:=6) (N:=some 45) (hc:=any_of HT_.out (by kernel_rfl)) (bm_ 13 111) ?_;refine pq_ (i:=7) (N:=some 46) (hc:=any_of HT_.out (by kernel_rfl)) (bm_ 13 239) ?_;refine tq_ (i:=8) (N:=some 47) (hc:=take_ofW HT_.out HW_.out (by kernel_rfl)) (bm_ 13 495) hHeld ?_;refine one_ (i:=4) (N:=some 43) (bm_ 13 511) rfl rfl (one_of HT_.out (by kernel_rfl)) (by decide) (fun K hK=>?_);refine goes_ Tryd.func118 (by kernel_rfl) rfl #[.int .i64 (wrap64 (a2+1)), .int .i64 a2] (by rfl) rfl rfl am_ ?_;(with_reducible refine(sennitref19_blanks.calls k3 (wrap64 (a2+1)) a2 t325 _ A15.out).mono ?_);rintro e w' ⟨rfl,⟨nd,rfl⟩⟩;refine⟨_,rfl,?_⟩;refine hK.out _ _ (((HB.out.cell (World.block_lt_of_cell? w _ hw326_0)).trans hw326_0)) (fun hHeld=>?_);clear hK K;refine nq_ (N:=some 43) ?_;refine pure_ (i:=9) (N:=some 48) (v:=?_) (a':=?_) (bm_ 13 1023) rfl rfl (any_of HT_.out (by kernel_rfl)) (fun _ _ _ h=>h) (Or.inl ⟨by rfl,?_⟩) ?_ ?_;rotate_left;(· intro w';go_simp;(with_reducible rfl));rotate_left
              (· simp only[Act.put,List.setIfInBounds_toArray,List.set_cons_zero,List.set_cons_succ,i64_w,i32_w];rfl);refine one_ (i:=10) (N:=some 49) (bm_ 13 2047) rfl rfl (one_of HT_.out (by kernel_rfl)) (by decide) (fun K hK=>?_);refine value_ (w1:=?_) (v:=?_) (by rfl) rfl ?_ ?_;rotate_left 2
              ·
               go_simp;constructor;(· rfl);(· rfl)
              refine hK.out _ _ ((World.cell?_alloc_lt _ _ _ (World.block_lt_of_cell? _ _ (((HB.out.cell (World.block_lt_of_cell? w _ hw326_0)).trans hw326_0)))).trans (((HB.out.cell (World.block_lt_of_cell? w _ hw326_0)).trans hw326_0))) (fun hHeld=>?_);clear hK K;refine nq_ (N:=some 49) ?_;refine one_ (i:=11) (N:=some 50) (bm_ 13 4095) rfl rfl (one_of HT_.out (by kernel_rfl)) (by decide) (fun K hK=>?_);refine Kd.R_append_step k57 (w0:=w) w.heap.size (by rfl) (.tmp 39) (.tmp 49) 36 57 (.agg #[(.string ⟨#[]⟩),(.string ⟨#[]⟩)]) 32 rfl Tryd.underlying36 info57 rfl (by decide) (by omega) u8 x8_3 (⟨t325,rdOf ByteArray.empty l1 x9_3⟩:S57) [.string t325, .string (rdOf ByteArray.empty l1 x9_3)] (fun _=>True) (fun _=>False) rfl rfl ?aP (fun _ hk=>hk.elim) ?aF ?aO ?aB ?aS ?aL ?_;(case aP=>exact k57_mkM _ _ _ (⟨t325,rdOf ByteArray.empty l1 x9_3⟩:S57));(case aB=>exact bel_);(case aF=>exact(fun _ _=>trivial));(case aO=>exact(pR_ HO_8.out));(case aS=>exact(bsz bel_));(case aL=>have:=LMc18.out;omega);intro v328 w20 ho hb hg hat;(rw[← Ny327.out] at ho);replace HO_7:=Aside0.mk (Kd.R_over' (pR_ HO_7.out) (Kd.R_typed (pR_ HO_8.out)) (by decide) hg);replace HB:=Aside0.mk (hb);have HO329:=Aside0.mk (ho);clear HO_8;clear ho hb hg hat;refine hK.out _ _ (((HB.out.cell (World.block_lt_of_cell? w _ hw326_0)).trans hw326_0)) (fun hHeld=>?_);clear hK K;refine nq_ (N:=some 50) ?_;refine pq_ (i:=12) (N:=some 8) (hc:=any_of HT_.out (by kernel_rfl)) (bm_ 13 8191) ?_;refine done_ (done_of HT_.out (by kernel_rfl)) ?_;(try go_wp2)
              go_roundg k3
              (case measure=>have:=HK1.out;have:=HJ6.out;have:=HK3.out;omega);(case rel=>exact⟨(y327),(wrap64 (x9_3+1)),rs_,H',⟨by have:=HK1.out;have:=HJ6.out;have:=HK3.out;omega⟩,⟨pR_ HO_7.out⟩,⟨pR_ HO329.out⟩,⟨bel_⟩⟩)
             (· exact nx_ c18 H)
            (· exact nx_ c17 H)
           (· exact nx_ c16 H)
          ·
           (rw[if_neg c14] at H);have c14b0:decide (x9_3 < x11_6)=false:=decide_eq_false c14;clear c14;have H':=Aside0.mk H;clear H;go_wp2
           go_meet
           (case rel=>exact⟨_,(x8_3),(x9_3),rs_,H',⟨by have:=HK1.out;have:=HJ6.out;have:=HK3.out;first|omega|exact Nat.le_refl _⟩,⟨pR_ HO_7.out⟩,⟨pR_ HO_8.out⟩,⟨bel_⟩⟩)
         ·
          (rw[if_neg c13] at H);have c13b0:decide (0≤x11_6)=false:=decide_eq_false c13;clear c13;(first|rw[c13b0]|(simp only[i64_w,i32_w];rw[c13b0])|skip);have H':=Aside0.mk H;clear H;go_wp2
          go_meet
          (case rel=>exact⟨_,(x8_3),(x9_3),rs_,H',⟨by have:=HK1.out;have:=HJ6.out;have:=HK3.out;first|omega|exact Nat.le_refl _⟩,⟨pR_ HO_7.out⟩,⟨pR_ HO_8.out⟩,⟨bel_⟩⟩)
      case rest =>
       clear HC12;(try clear c1);(try clear p2);(try clear p3);(try clear q3);(try clear hx3);(try clear c6);(try clear c6b0);(try clear p6);(try clear c8);(try clear c8b0);(try clear c9);(try clear c9b0);(try clear c10);(try clear c10b0);(try clear c11);(try clear c13);(try clear c13b0);(try clear c14);(try clear c14b0);(try clear c16);(try clear c16b0);(try clear c17);(try clear c17b0);(try clear c18);(try clear hx324_0);(try clear hx326_0);(try clear p2);(try clear p3);(try clear p324);(try clear p326);(try clear q3);(try clear q324);(try clear q326);obtain⟨kq,x8_11,x9_11,rfl,HA,HJ11,HO_7,HO_8,HB⟩:=hcut
       cases kq with
       | zero=>exact absurd HA.out (by simp[sennitref19_come.j3])
       | succ kj11 =>
        have H:=HA.out;clear HA;(simp only[sennitref19_come.j3] at H)
        by_cases c21:x10_1 < (l0.length:Int)
        ·
         (rw[if_pos c21] at H);have c21b0:decide (x10_1 < (l0.length:Int))=true:=decide_eq_true c21;clear c21
         by_cases c22:x11_6 ≥ 0
         ·
          (rw[if_pos c22] at H);have c22b0:decide (0≤x11_6)=true:=decide_eq_true c22;clear c22
          by_cases c23:0≤x10_1
          ·
           (rw[if_pos c23] at H);have c23b0:decide (0≤x10_1)=true:=decide_eq_true c23;clear c23
           by_cases c24:((rd_T57 l0 x10_1).f0).size+1≤9223372036854775807
           ·
            (rw[if_pos c24] at H);have c24b0:=eq_true c24;have c24b1:decide (((rd_T57 l0 x10_1).f0).size+1≤9223372036854775807)=true:=decide_eq_true c24;(try have c24b2:(9223372036854775807 < ((rd_T57 l0 x10_1).f0).size+1)=False:=eq_false (Nat.not_lt.2 c24))
            by_cases c25:x8_11.length < 4398046511104
            ·
             (rw[if_pos c25] at H);have LMc25:=Aside0.mk c25;clear c25;obtain⟨y332,hy332⟩ : ∃ y_:List (S57),y_=(x8_11 ++ [(⟨((rd_T57 l0 x10_1).f0) ++ (⟨#[45]⟩:ByteArray),(rd_T57 l0 x10_1).f1⟩:S57)]):=⟨_,rfl⟩;((try rw[Option.bind_some] at H);rw[← hy332] at H);have Ny332:=Aside0.mk hy332;clear hy332;have H':=Aside0.mk H;clear H;(try go_wp2);replace HO_7:=Aside0.mk (Kd.R_drew HO_7.out);replace HO_8:=Aside0.mk (Kd.R_drew HO_8.out);replace HB:=Aside0.mk (below_drew1 HB.out);have p330:0≤(x10_1:Int):=dt_;have q330:x10_1 < (l0.length:Int):=dt_;obtain⟨ad330,e330,hx330_0,hx330_1⟩:=at_T57 HR0.out x10_1 p330 q330;have hw330_1:=hx330_1;have hw330_0:=hx330_0;cases e330;replace hx330_0:=(HB.out.cell (World.block_lt_of_cell? w _ hx330_0)).trans hx330_0;replace hx330_1:=(HB.out.cell (World.block_lt_of_cell? w _ hx330_1)).trans hx330_1;replace p330:=eq_true p330;replace q330:=eq_true q330;have p331:0≤(x10_1:Int):=dt_;have q331:x10_1 < (l0.length:Int):=dt_;obtain⟨ad331,e331,hx331_0,hx331_1⟩:=at_T57 HR0.out x10_1 p331 q331;have hw331_1:=hx331_1;have hw331_0:=hx331_0;obtain rfl:ad330=ad331:=(by injection e331);replace hx331_0:=(HB.out.cell (World.block_lt_of_cell? w _ hx331_0)).trans hx331_0;replace hx331_1:=(HB.out.cell (World.block_lt_of_cell? w _ hx331_1)).trans hx331_1;replace p331:=eq_true p331;replace q331:=eq_true q331;(refine start_ (n:=17) (S:=fun w'=>w'.cell? (ad330.add ((x10_1).toNat * 2))=some (.string ((rd_T57 l0 x10_1).f0))∧w'.cell? ⟨(ad330.add ((x10_1).toNat * 2)).block,(ad330.add ((x10_1).toNat * 2)).off+1,none⟩=some (.string ((rd_T57 l0 x10_1).f1))∧w'.cell? (ad330.add ((x10_1).toNat * 2))=some (.string ((rd_T57 l0 x10_1).f0))∧w'.cell? ⟨(ad330.add ((x10_1).toNat * 2)).block,(ad330.add ((x10_1).toNat * 2)).off+1,none⟩=some (.string ((rd_T57 l0 x10_1).f1))) (ds:=[]) (bm_ 17 0) (by kernel_rfl) rfl rfl ⟨((HB.out.cell (World.block_lt_of_cell? w _ hw330_0)).trans hw330_0),((HB.out.cell (World.block_lt_of_cell? w _ hw330_1)).trans hw330_1),((HB.out.cell (World.block_lt_of_cell? w _ hw331_0)).trans hw331_0),((HB.out.cell (World.block_lt_of_cell? w _ hw331_1)).trans hw331_1)⟩ (fun hHeld=>?_);refine with_tabW sennitref19_come.tab18 sennitref19_come.bits18 (fun HT_ HW_=>?_));(generalize wc.drew=w26 at HO_7 HO_8 HB hx330_0 hx330_1 hx331_0 hx331_1 hHeld ⊢);refine pq_ (i:=0) (N:=some 61) (hc:=any_of HT_.out (by kernel_rfl)) (bm_ 17 1) ?_;refine pq_ (i:=1) (N:=some 62) (hc:=any_of HT_.out (by kernel_rfl)) (bm_ 17 3) ?_;refine pq_ (i:=2) (N:=some 63) (hc:=any_of HT_.out (by kernel_rfl)) (bm_ 17 7) ?_;refine pq_ (i:=3) (N:=some 64) (hc:=any_of HT_.out (by kernel_rfl)) (bm_ 17 15) ?_;refine pq_ (i:=4) (N:=some 65) (hc:=any_of HT_.out (by kernel_rfl)) (bm_ 17 31) ?_;refine pq_ (i:=6) (N:=some 67) (hc:=any_of HT_.out (by kernel_rfl)) (bm_ 17 95) ?_;refine pq_ (i:=8) (N:=some 69) (hc:=any_of HT_.out (by kernel_rfl)) (bm_ 17 351) ?_
             refine pq_ (i:=9) (N:=some 70) (hc:=any_of HT_.out (by kernel_rfl)) (bm_ 17 863) ?_;refine pq_ (i:=10) (N:=some 71) (hc:=any_of HT_.out (by kernel_rfl)) (bm_ 17 1887) ?_;refine pq_ (i:=11) (N:=some 72) (hc:=any_of HT_.out (by kernel_rfl)) (bm_ 17 3935) ?_;refine tq_ (i:=5) (N:=some 66) (hc:=take_ofW HT_.out HW_.out (by kernel_rfl)) (bm_ 17 3967) hHeld ?_;refine pq_ (i:=7) (N:=some 68) (hc:=any_of HT_.out (by kernel_rfl)) (bm_ 17 4095) ?_;refine tq_ (i:=12) (N:=some 73) (hc:=take_ofW HT_.out HW_.out (by kernel_rfl)) (bm_ 17 8191) hHeld ?_;refine pq_ (i:=13) (N:=some 74) (hc:=any_of HT_.out (by kernel_rfl)) (bm_ 17 16383) ?_;refine one_ (i:=14) (N:=some 75) (bm_ 17 32767) rfl rfl (one_of HT_.out (by kernel_rfl)) (by decide) (fun K hK=>?_);refine value_ (w1:=?_) (v:=?_) (by rfl) rfl ?_ ?_;rotate_left 2
             ·
              go_simp;constructor;(· rfl);(· rfl)
             refine hK.out _ _ ⟨(World.cell?_alloc_lt _ _ _ (World.block_lt_of_cell? _ _ (((HB.out.cell (World.block_lt_of_cell? w _ hw330_0)).trans hw330_0)))).trans (((HB.out.cell (World.block_lt_of_cell? w _ hw330_0)).trans hw330_0)),(World.cell?_alloc_lt _ _ _ (World.block_lt_of_cell? _ _ (((HB.out.cell (World.block_lt_of_cell? w _ hw330_1)).trans hw330_1)))).trans (((HB.out.cell (World.block_lt_of_cell? w _ hw330_1)).trans hw330_1)),(World.cell?_alloc_lt _ _ _ (World.block_lt_of_cell? _ _ (((HB.out.cell (World.block_lt_of_cell? w _ hw331_0)).trans hw331_0)))).trans (((HB.out.cell (World.block_lt_of_cell? w _ hw331_0)).trans hw331_0)),(World.cell?_alloc_lt _ _ _ (World.block_lt_of_cell? _ _ (((HB.out.cell (World.block_lt_of_cell? w _ hw331_1)).trans hw331_1)))).trans (((HB.out.cell (World.block_lt_of_cell? w _ hw331_1)).trans hw331_1))⟩ (fun hHeld=>?_);clear hK K;refine nq_ (N:=some 75) ?_;refine one_ (i:=15) (N:=some 76) (bm_ 17 65535) rfl rfl (one_of HT_.out (by kernel_rfl)) (by decide) (fun K hK=>?_);refine Kd.R_append_step k57 (w0:=w) w.heap.size (by rfl) (.tmp 61) (.tmp 75) 36 57 (.agg #[(.string ⟨#[]⟩),(.string ⟨#[]⟩)]) 32 rfl Tryd.underlying36 info57 rfl (by decide) (by omega) u8 x8_11 (⟨((rd_T57 l0 x10_1).f0) ++ (⟨#[45]⟩:ByteArray),(rd_T57 l0 x10_1).f1⟩:S57) [.string (((rd_T57 l0 x10_1).f0) ++ (⟨#[45]⟩:ByteArray)), .string ((rd_T57 l0 x10_1).f1)] (fun _=>True) (fun _=>False) rfl rfl ?aP (fun _ hk=>hk.elim) ?aF ?aO ?aB ?aS ?aL ?_;(case aP=>exact k57_mkM _ _ _ (⟨((rd_T57 l0 x10_1).f0) ++ (⟨#[45]⟩:ByteArray),(rd_T57 l0 x10_1).f1⟩:S57));(case aB=>exact bel_);(case aF=>exact(fun _ _=>trivial));(case aO=>exact(pR_ HO_8.out));(case aS=>exact(bsz bel_));(case aL=>have:=LMc25.out;omega);intro v333 w27 ho hb hg hat;(rw[← Ny332.out] at ho);replace HO_7:=Aside0.mk (Kd.R_over' (pR_ HO_7.out) (Kd.R_typed (pR_ HO_8.out)) (by decide) hg);replace HB:=Aside0.mk (hb);have HO334:=Aside0.mk (ho);clear HO_8;clear ho hb hg hat;refine hK.out _ _ ⟨((HB.out.cell (World.block_lt_of_cell? w _ hw330_0)).trans hw330_0),((HB.out.cell (World.block_lt_of_cell? w _ hw330_1)).trans hw330_1),((HB.out.cell (World.block_lt_of_cell? w _ hw331_0)).trans hw331_0),((HB.out.cell (World.block_lt_of_cell? w _ hw331_1)).trans hw331_1)⟩ (fun hHeld=>?_);clear hK K;refine nq_ (N:=some 76) ?_;refine pq_ (i:=16) (N:=some 8) (hc:=any_of HT_.out (by kernel_rfl)) (bm_ 17 131071) ?_;refine done_ (done_of HT_.out (by kernel_rfl)) ?_;(try go_wp2)
             go_roundg kj11
             (case measure=>have:=HK1.out;have:=HJ6.out;have:=HJ11.out;omega);(case rel=>exact⟨(y332),(wrap64 (x9_11+1)),(wrap64 (x10_1+1)),rs_,rs_,H',⟨by have:=HK1.out;have:=HJ6.out;have:=HJ11.out;omega⟩,⟨pR_ HO_7.out⟩,⟨pR_ HO334.out⟩,⟨bel_⟩⟩)
            (· exact nx_ c25 H)
           (· exact nx_ c24 H)
          (· exact nx_ c23 H)
         ·
          (rw[if_neg c22] at H);have c22b0:decide (0≤x11_6)=false:=decide_eq_false c22;clear c22
          by_cases c28:0≤x10_1
          ·
           (rw[if_pos c28] at H);have c28b0:decide (0≤x10_1)=true:=decide_eq_true c28;clear c28
           by_cases c29:((rd_T57 l0 x10_1).f0).size+1≤9223372036854775807
           ·
            (rw[if_pos c29] at H);have c29b0:=eq_true c29;have c29b1:decide (((rd_T57 l0 x10_1).f0).size+1≤9223372036854775807)=true:=decide_eq_true c29;(try have c29b2:(9223372036854775807 < ((rd_T57 l0 x10_1).f0).size+1)=False:=eq_false (Nat.not_lt.2 c29))
            by_cases c30:x8_11.length < 4398046511104
            ·
             (rw[if_pos c30] at H);have LMc30:=Aside0.mk c30;clear c30;obtain⟨y337,hy337⟩ : ∃ y_:List (S57),y_=(x8_11 ++ [(⟨((rd_T57 l0 x10_1).f0) ++ (⟨#[32]⟩:ByteArray),(rd_T57 l0 x10_1).f1⟩:S57)]):=⟨_,rfl⟩;((try rw[Option.bind_some] at H);rw[← hy337] at H);have Ny337:=Aside0.mk hy337;clear hy337;have H':=Aside0.mk H;clear H;(try go_wp2);replace HO_7:=Aside0.mk (Kd.R_drew HO_7.out);replace HO_8:=Aside0.mk (Kd.R_drew HO_8.out);replace HB:=Aside0.mk (below_drew1 HB.out);have p335:0≤(x10_1:Int):=dt_;have q335:x10_1 < (l0.length:Int):=dt_;obtain⟨ad335,e335,hx335_0,hx335_1⟩:=at_T57 HR0.out x10_1 p335 q335;have hw335_1:=hx335_1;have hw335_0:=hx335_0;cases e335;replace hx335_0:=(HB.out.cell (World.block_lt_of_cell? w _ hx335_0)).trans hx335_0;replace hx335_1:=(HB.out.cell (World.block_lt_of_cell? w _ hx335_1)).trans hx335_1;replace p335:=eq_true p335;replace q335:=eq_true q335;have p336:0≤(x10_1:Int):=dt_;have q336:x10_1 < (l0.length:Int):=dt_;obtain⟨ad336,e336,hx336_0,hx336_1⟩:=at_T57 HR0.out x10_1 p336 q336;have hw336_1:=hx336_1;have hw336_0:=hx336_0;obtain rfl:ad335=ad336:=(by injection e336);replace hx336_0:=(HB.out.cell (World.block_lt_of_cell? w _ hx336_0)).trans hx336_0;replace hx336_1:=(HB.out.cell (World.block_lt_of_cell? w _ hx336_1)).trans hx336_1;replace p336:=eq_true p336;replace q336:=eq_true q336;(refine start_ (n:=17) (S:=fun w'=>w'.cell? (ad335.add ((x10_1).toNat * 2))=some (.string ((rd_T57 l0 x10_1).f0))∧w'.cell? ⟨(ad335.add ((x10_1).toNat * 2)).block,(ad335.add ((x10_1).toNat * 2)).off+1,none⟩=some (.string ((rd_T57 l0 x10_1).f1))∧w'.cell? (ad335.add ((x10_1).toNat * 2))=some (.string ((rd_T57 l0 x10_1).f0))∧w'.cell? ⟨(ad335.add ((x10_1).toNat * 2)).block,(ad335.add ((x10_1).toNat * 2)).off+1,none⟩=some (.string ((rd_T57 l0 x10_1).f1))) (ds:=[]) (bm_ 17 0) (by kernel_rfl) rfl rfl ⟨((HB.out.cell (World.block_lt_of_cell? w _ hw335_0)).trans hw335_0),((HB.out.cell (World.block_lt_of_cell? w _ hw335_1)).trans hw335_1),((HB.out.cell (World.block_lt_of_cell? w _ hw336_0)).trans hw336_0),((HB.out.cell (World.block_lt_of_cell? w _ hw336_1)).trans hw336_1)⟩ (fun hHeld=>?_);refine with_tabW sennitref19_come.tab18 sennitref19_come.bits18 (fun HT_ HW_=>?_));(generalize wc.drew=w31 at HO_7 HO_8 HB hx335_0 hx335_1 hx336_0 hx336_1 hHeld ⊢);refine pq_ (i:=0) (N:=some 61) (hc:=any_of HT_.out (by kernel_rfl)) (bm_ 17 1) ?_;refine pq_ (i:=1) (N:=some 62) (hc:=any_of HT_.out (by kernel_rfl)) (bm_ 17 3) ?_;refine pq_ (i:=2) (N:=some 63) (hc:=any_of HT_.out (by kernel_rfl)) (bm_ 17 7) ?_;refine pq_ (i:=3) (N:=some 64) (hc:=any_of HT_.out (by kernel_rfl)) (bm_ 17 15) ?_;refine pq_ (i:=4) (N:=some 65) (hc:=any_of HT_.out (by kernel_rfl)) (bm_ 17 31) ?_;refine pq_ (i:=6) (N:=some 67) (hc:=any_of HT_.out (by kernel_rfl)) (bm_ 17 95) ?_;refine pq_ (i:=8) (N:=some 69) (hc:=any_of HT_.out (by kernel_rfl)) (bm_ 17 351) ?_
             refine pq_ (i:=9) (N:=some 70) (hc:=any_of HT_.out (by kernel_rfl)) (bm_ 17 863) ?_;refine pq_ (i:=10) (N:=some 71) (hc:=any_of HT_.out (by kernel_rfl)) (bm_ 17 1887) ?_;refine pq_ (i:=11) (N:=some 72) (hc:=any_of HT_.out (by kernel_rfl)) (bm_ 17 3935) ?_;refine tq_ (i:=5) (N:=some 66) (hc:=take_ofW HT_.out HW_.out (by kernel_rfl)) (bm_ 17 3967) hHeld ?_;refine pq_ (i:=7) (N:=some 68) (hc:=any_of HT_.out (by kernel_rfl)) (bm_ 17 4095) ?_;refine tq_ (i:=12) (N:=some 73) (hc:=take_ofW HT_.out HW_.out (by kernel_rfl)) (bm_ 17 8191) hHeld ?_;refine pq_ (i:=13) (N:=some 74) (hc:=any_of HT_.out (by kernel_rfl)) (bm_ 17 16383) ?_;refine one_ (i:=14) (N:=some 75) (bm_ 17 32767) rfl rfl (one_of HT_.out (by kernel_rfl)) (by decide) (fun K hK=>?_);refine value_ (w1:=?_) (v:=?_) (by rfl) rfl ?_ ?_;rotate_left 2
             ·
              go_simp;constructor;(· rfl);(· rfl)
             refine hK.out _ _ ⟨(World.cell?_alloc_lt _ _ _ (World.block_lt_of_cell? _ _ (((HB.out.cell (World.block_lt_of_cell? w _ hw335_0)).trans hw335_0)))).trans (((HB.out.cell (World.block_lt_of_cell? w _ hw335_0)).trans hw335_0)),(World.cell?_alloc_lt _ _ _ (World.block_lt_of_cell? _ _ (((HB.out.cell (World.block_lt_of_cell? w _ hw335_1)).trans hw335_1)))).trans (((HB.out.cell (World.block_lt_of_cell? w _ hw335_1)).trans hw335_1)),(World.cell?_alloc_lt _ _ _ (World.block_lt_of_cell? _ _ (((HB.out.cell (World.block_lt_of_cell? w _ hw336_0)).trans hw336_0)))).trans (((HB.out.cell (World.block_lt_of_cell? w _ hw336_0)).trans hw336_0)),(World.cell?_alloc_lt _ _ _ (World.block_lt_of_cell? _ _ (((HB.out.cell (World.block_lt_of_cell? w _ hw336_1)).trans hw336_1)))).trans (((HB.out.cell (World.block_lt_of_cell? w _ hw336_1)).trans hw336_1))⟩ (fun hHeld=>?_);clear hK K;refine nq_ (N:=some 75) ?_;refine one_ (i:=15) (N:=some 76) (bm_ 17 65535) rfl rfl (one_of HT_.out (by kernel_rfl)) (by decide) (fun K hK=>?_);refine Kd.R_append_step k57 (w0:=w) w.heap.size (by rfl) (.tmp 61) (.tmp 75) 36 57 (.agg #[(.string ⟨#[]⟩),(.string ⟨#[]⟩)]) 32 rfl Tryd.underlying36 info57 rfl (by decide) (by omega) u8 x8_11 (⟨((rd_T57 l0 x10_1).f0) ++ (⟨#[32]⟩:ByteArray),(rd_T57 l0 x10_1).f1⟩:S57) [.string (((rd_T57 l0 x10_1).f0) ++ (⟨#[32]⟩:ByteArray)), .string ((rd_T57 l0 x10_1).f1)] (fun _=>True) (fun _=>False) rfl rfl ?aP (fun _ hk=>hk.elim) ?aF ?aO ?aB ?aS ?aL ?_;(case aP=>exact k57_mkM _ _ _ (⟨((rd_T57 l0 x10_1).f0) ++ (⟨#[32]⟩:ByteArray),(rd_T57 l0 x10_1).f1⟩:S57));(case aB=>exact bel_);(case aF=>exact(fun _ _=>trivial));(case aO=>exact(pR_ HO_8.out));(case aS=>exact(bsz bel_));(case aL=>have:=LMc30.out;omega);intro v338 w32 ho hb hg hat;(rw[← Ny337.out] at ho);replace HO_7:=Aside0.mk (Kd.R_over' (pR_ HO_7.out) (Kd.R_typed (pR_ HO_8.out)) (by decide) hg);replace HB:=Aside0.mk (hb);have HO339:=Aside0.mk (ho);clear HO_8;clear ho hb hg hat;refine hK.out _ _ ⟨((HB.out.cell (World.block_lt_of_cell? w _ hw335_0)).trans hw335_0),((HB.out.cell (World.block_lt_of_cell? w _ hw335_1)).trans hw335_1),((HB.out.cell (World.block_lt_of_cell? w _ hw336_0)).trans hw336_0),((HB.out.cell (World.block_lt_of_cell? w _ hw336_1)).trans hw336_1)⟩ (fun hHeld=>?_);clear hK K;refine nq_ (N:=some 76) ?_;refine pq_ (i:=16) (N:=some 8) (hc:=any_of HT_.out (by kernel_rfl)) (bm_ 17 131071) ?_;refine done_ (done_of HT_.out (by kernel_rfl)) ?_;(try go_wp2)
             go_roundg kj11
             (case measure=>have:=HK1.out;have:=HJ6.out;have:=HJ11.out;omega);(case rel=>exact⟨(y337),(x9_11),(wrap64 (x10_1+1)),rs_,rs_,H',⟨by have:=HK1.out;have:=HJ6.out;have:=HJ11.out;omega⟩,⟨pR_ HO_7.out⟩,⟨pR_ HO339.out⟩,⟨bel_⟩⟩)
            (· exact nx_ c30 H)
           (· exact nx_ c29 H)
          (· exact nx_ c28 H)
        ·
         (rw[if_neg c21] at H);have c21b0:decide (x10_1 < (l0.length:Int))=false:=decide_eq_false c21;clear c21;have H':=Aside0.mk H;clear H;go_wp2
         go_roundg kj11
         (case measure=>have:=HK1.out;have:=HJ6.out;have:=HJ11.out;omega);(case rel=>exact⟨(x8_11),(x9_11),(wrap64 (x10_1+1)),rs_,rs_,H',⟨by have:=HK1.out;have:=HJ6.out;have:=HJ11.out;omega⟩,⟨pR_ HO_7.out⟩,⟨pR_ HO_8.out⟩,⟨bel_⟩⟩)
   (· (rw[if_neg c6] at H);have c6b0:decide (x10_1≤(l0.length:Int))=false:=decide_eq_false c6;clear c6;obtain rfl:=Option.some.inj H;go_wp2;go_ret;exact⟨_,ew_,by(with_reducible repeat(first|apply Kd.R_alloc|apply Kd.R_drewN|apply Kd.R_drew));exact HO_8.out,bel_⟩)
def sennitref19_Coalesce.l0:Nat→List (List ByteArray)→List (S57)→Int→Option ((List (S57)) × Int)
  | 0,_,_,_=>none
  | k+1,x0,x4,x5=>if x5 < (x0.length:Int) then (if (x4.length:Int) > 2000 then (some (([]:List (S57)),4)) else (if 0≤x5 then (if ((rd_L8 x0 x5).length:Int) > 2000 then (some (([]:List (S57)),4)) else ((sennitref19_come.f k x4 (rd_L8 x0 x5) x5).bind fun t342=>(sennitref19_Coalesce.l0 k x0 t342 (wrap64 (x5+1))))) else (none))) else (some (x4,0))
def sennitref19_Coalesce.f (k:Nat) (l0:List (List ByteArray)):Option ((List (S57)) × Int):=if (l0.length:Int) > 16 then (some (([]:List (S57)),1)) else (sennitref19_Coalesce.l0 k l0 ([]:List (S57)) 0)
theorem sennitref19_Coalesce.calls (k:Nat) (A0:Option Addr) (c0:Nat) (l0:List (List ByteArray)) (r1:List (S57)) (r2:Int) (w:World) (hr0:Kd.C (Kd.slice 9 Kd.string) w A0 l0.length l0) (hc0:l0.length≤c0) (h:sennitref19_Coalesce.f k l0=some (r1,r2)) :
    Calls Tryd.prog 79 #[.slice A0 l0.length c0] w fun e w' => ∃ v0_:Value,e = .returned (.tuple #[v0_, .int .i64 r2])∧Kd.R k57 57 w' w.heap.size (fun _=>True) v0_ r1∧Below w.heap.size w w':=by
 have HR0:=Aside0.mk hr0;have HC0:=Aside0.mk hc0;clear hr0 hc0;have HB:=Aside0.mk (Below.refl w.heap.size w);have H:=h;(rw[sennitref19_Coalesce.f] at H);clear h
 by_cases c2:(l0.length:Int) > 16
 (· (rw[if_pos c2] at H);have c2b0:decide (16 < (l0.length:Int))=true:=decide_eq_true c2;have c2b1:decide (16 < l0.length)=true:=decide_eq_true (by omega);clear c2;(simp only[Option.some.injEq,Prod.mk.injEq] at H);obtain⟨rfl,rfl⟩:=H;go_enter Tryd.func79,Tryd.ntmps79;go_wp2;go_ret2;exact⟨_,ew_,by first|exact Kd.R_nil _ _ _ _ _|exact Kd.N_nil _ _ _ _ _|exact Kd.V_nil _ _ _ _ _|exact Kd.Q_nil _ _ _ _ _|exact Kd.S_nil _ _ _ _ _,bel_⟩)
 ·
  (rw[if_neg c2] at H);have c2b0:decide (16 < (l0.length:Int))=false:=decide_eq_false c2;have c2b1:decide (16 < l0.length)=false:=decide_eq_false (by omega);clear c2;have H':=Aside0.mk H;clear H;go_enter Tryd.func79,Tryd.ntmps79;go_wp2
  go_loopg [4,5] k (fun kq v4 v5 w' => ∃ (x4_1:List (S57)) (x5_1:Int),v5 = .int .i64 x5_1∧Aside0 (sennitref19_Coalesce.l0 kq l0 x4_1 x5_1=some (r1,r2))∧Aside0 (kq≤k)∧Aside0 (Kd.R k57 57 w' w.heap.size (fun _=>True) v4 x4_1)∧Aside0 (Below w.heap.size w w'))
  (case atStart=>exact⟨(([]:List (S57))),(0),rs_,H',⟨Nat.le_refl _⟩,⟨by first|exact Kd.R_nil _ _ _ _ _|exact Kd.N_nil _ _ _ _ _|exact Kd.V_nil _ _ _ _ _|exact Kd.Q_nil _ _ _ _ _|exact Kd.S_nil _ _ _ _ _⟩,⟨bel_⟩⟩)
  case round =>
   clear H';(try clear c2);(try clear c2b0);(try clear c2b1);(try clear p2);obtain⟨x4_1,x5_1,rfl,HA,HK1,HO_4,HB⟩:=hrel
   cases gk with
   | zero=>exact absurd HA.out (by simp[sennitref19_Coalesce.l0])
   | succ k1 =>
    have H:=HA.out;clear HA;(simp only[sennitref19_Coalesce.l0] at H)
    by_cases c3:x5_1 < (l0.length:Int)
    ·
     (rw[if_pos c3] at H);have c3b0:decide (x5_1 < (l0.length:Int))=true:=decide_eq_true c3;clear c3
     by_cases c4:(x4_1.length:Int) > 2000
     (· (rw[if_pos c4] at H);have c4b0:decide (2000 < (x4_1.length:Int))=true:=decide_eq_true c4;have c4b1:decide (2000 < x4_1.length)=true:=decide_eq_true (by omega);clear c4;(simp only[Option.some.injEq,Prod.mk.injEq] at H);obtain⟨rfl,rfl⟩:=H;obtain⟨Ao5,co5,eo5⟩:=Kd.R_slice HO_4.out;subst eo5;go_wp2;go_ret2;exact⟨_,ew_,by first|exact Kd.R_nil _ _ _ _ _|exact Kd.N_nil _ _ _ _ _|exact Kd.V_nil _ _ _ _ _|exact Kd.Q_nil _ _ _ _ _|exact Kd.S_nil _ _ _ _ _,bel_⟩)
     ·
      (rw[if_neg c4] at H);have c4b0:decide (2000 < (x4_1.length:Int))=false:=decide_eq_false c4;have c4b1:decide (2000 < x4_1.length)=false:=decide_eq_false (by omega);clear c4
      by_cases c6:0≤x5_1
      ·
       (rw[if_pos c6] at H);have c6b0:decide (0≤x5_1)=true:=decide_eq_true c6;clear c6
       by_cases c7:((rd_L8 l0 x5_1).length:Int) > 2000
       (· (rw[if_pos c7] at H);have c7b0:decide (2000 < ((rd_L8 l0 x5_1).length:Int))=true:=decide_eq_true c7;have c7b1:decide (2000 < (rd_L8 l0 x5_1).length)=true:=decide_eq_true (by omega);clear c7;(simp only[Option.some.injEq,Prod.mk.injEq] at H);obtain⟨rfl,rfl⟩:=H;obtain⟨Ao8,co8,eo8⟩:=Kd.R_slice HO_4.out;subst eo8;have p340:0≤(x5_1:Int):=dt_;have q340:x5_1 < (l0.length:Int):=dt_;obtain⟨ad340,A340_0,c340_0,e340,hx340_0,hl340_0,hi340_0⟩:=at_L8 HR0.out x5_1 p340 q340;cases e340;replace hx340_0:=(HB.out.cell (World.block_lt_of_cell? w _ hx340_0)).trans hx340_0;have HR340_0:=Aside0.mk hi340_0;have HC340_0:=Aside0.mk hl340_0;clear hi340_0 hl340_0;replace p340:=eq_true p340;replace q340:=eq_true q340;go_wp2;go_ret2;exact⟨_,ew_,by first|exact Kd.R_nil _ _ _ _ _|exact Kd.N_nil _ _ _ _ _|exact Kd.V_nil _ _ _ _ _|exact Kd.Q_nil _ _ _ _ _|exact Kd.S_nil _ _ _ _ _,bel_⟩)
       ·
        (rw[if_neg c7] at H);have c7b0:decide (2000 < ((rd_L8 l0 x5_1).length:Int))=false:=decide_eq_false c7;have c7b1:decide (2000 < (rd_L8 l0 x5_1).length)=false:=decide_eq_false (by omega);clear c7;replace H:=Option.bind_eq_some_iff.mp H;obtain⟨t342,A90,H⟩:=H;(try dsimp only at H);have A9:=Aside0.mk A90;clear A90;have H':=Aside0.mk H;clear H;obtain⟨Ao10,co10,eo10⟩:=Kd.R_slice HO_4.out;subst eo10;have p340:0≤(x5_1:Int):=dt_;have q340:x5_1 < (l0.length:Int):=dt_;obtain⟨ad340,A340_0,c340_0,e340,hx340_0,hl340_0,hi340_0⟩:=at_L8 HR0.out x5_1 p340 q340;cases e340;replace hx340_0:=(HB.out.cell (World.block_lt_of_cell? w _ hx340_0)).trans hx340_0;have HR340_0:=Aside0.mk hi340_0;have HC340_0:=Aside0.mk hl340_0;clear hi340_0 hl340_0;replace p340:=eq_true p340;replace q340:=eq_true q340;have p341:0≤(x5_1:Int):=dt_;have q341:x5_1 < (l0.length:Int):=dt_;obtain⟨ad341,A341_0,c341_0,e341,hx341_0,hl341_0,hi341_0⟩:=at_L8 HR0.out x5_1 p341 q341;obtain rfl:ad340=ad341:=(by injection e341);replace hx341_0:=(HB.out.cell (World.block_lt_of_cell? w _ hx341_0)).trans hx341_0;have HR341_0:=Aside0.mk hi341_0;have HC341_0:=Aside0.mk hl341_0;clear hi341_0 hl341_0;replace p341:=eq_true p341;replace q341:=eq_true q341;have ea_:=Option.some.inj (hx340_0.symm.trans hx341_0);(injection ea_ with ea_ en_ ec_);subst ea_;subst ec_;clear en_;(go_wp2_with (first|((with_reducible refine gate_callee (f:=102) rfl ?_);refine goesL_ (some 32) rfl rfl Tryd.func102 (by kernel_rfl) rfl #[.slice Ao10 x4_1.length co10, .slice A340_0 (rd_L8 l0 x5_1).length c340_0, .int .i64 x5_1] rfl am_ ?_;(with_reducible refine(sennitref19_come.calls k1 _ _ x4_1 _ _ (rd_L8 l0 x5_1) x5_1 t342 _ ?side1 ?side2 ?side3 ?side4 A9.out).mono ?_);(case side1=>repeat(first|exact(Kd.R_reads' HO_4.out).2.2|(with_reducible refine Kd.C_alloc ?_ _)|(with_reducible refine Kd.C_drewN ?_ _)|(with_reducible refine Kd.C_drew ?_)));(case side2=>exact(Kd.R_reads' HO_4.out).2.1);(case side3=>repeat(first|exact(Kd.C_below HR341_0.out HB.out)|(with_reducible refine Kd.C_alloc ?_ _)|(with_reducible refine Kd.C_drewN ?_ _)|(with_reducible refine Kd.C_drew ?_)));(case side4=>exact HC341_0.out);rintro e w11 ⟨v343,rfl,ho0,hb⟩;refine⟨_,rfl,?_⟩;have HO344:=Aside0.mk (Kd.R_lower (Kd.R_new' ho0 (Kd.R_lt (pR_ HO_4.out))) (bsz bel_));replace HO_4:=Aside0.mk (Kd.R_elder' (pR_ HO_4.out) (Kd.R_base ho0) hb);replace HB:=Aside0.mk (bst bel_ hb);(try clear hb);(try clear hb2);(try clear hk);(try clear hi);(try clear ho0))))
        go_roundg k1
        (case measure=>have:=HK1.out;omega);(case rel=>exact⟨(t342),(wrap64 (x5_1+1)),rs_,H',⟨by have:=HK1.out;omega⟩,⟨Kd.R_mono (pRm_ HO344.out) (fun _ hk=>trivial)⟩,⟨bel_⟩⟩)
      (· exact nx_ c6 H)
    (· (rw[if_neg c3] at H);have c3b0:decide (x5_1 < (l0.length:Int))=false:=decide_eq_false c3;clear c3;(simp only[Option.some.injEq,Prod.mk.injEq] at H);obtain⟨rfl,rfl⟩:=H;go_wp2;go_ret2;exact⟨_,ew_,by(with_reducible repeat(first|apply Kd.R_alloc|apply Kd.R_drewN|apply Kd.R_drew));exact HO_4.out,bel_⟩)
def sennitref01_Same.l0:Nat→List ByteArray→List ByteArray→Int→Option (Bool)
  | 0,_,_,_=>none
  | k+1,x0,x1,x5=>if x5 < (x0.length:Int) then (if 0≤x5 then (if x5 < (x1.length:Int) then (if (rdOf ByteArray.empty x0 x5).toList=(rdOf ByteArray.empty x1 x5).toList then (sennitref01_Same.l0 k x0 x1 (wrap64 (x5+1))) else (some false)) else (none)) else (none)) else (some true)
def sennitref01_Same.f (k:Nat) (l0:List ByteArray) (l1:List ByteArray):Option (Bool):=if (l0.length:Int)=(l1.length:Int) then (sennitref01_Same.l0 k l0 l1 0) else (some false)
theorem sennitref01_Same.calls (k:Nat) (A0:Option Addr) (c0:Nat) (l0:List ByteArray) (A1:Option Addr) (c1:Nat) (l1:List ByteArray) (r:Bool) (w:World) (hr0:Kd.C Kd.string w A0 l0.length l0) (hc0:l0.length≤c0) (hr1:Kd.C Kd.string w A1 l1.length l1) (hc1:l1.length≤c1) (h:sennitref01_Same.f k l0 l1=some r) :
    Calls Tryd.prog 21 #[.slice A0 l0.length c0, .slice A1 l1.length c1] w fun e w'=>e = .returned (.bool r)∧Drawn0 w w':=by
 have HR0:=Aside0.mk hr0;have HC0:=Aside0.mk hc0;clear hr0 hc0;have HR1:=Aside0.mk hr1;have HC1:=Aside0.mk hc1;clear hr1 hc1;have H:=h;(rw[sennitref01_Same.f] at H);clear h
 by_cases c3:(l0.length:Int)=(l1.length:Int)
 ·
  (rw[if_pos c3] at H);have c3b0:((l0.length:Int) == (l1.length:Int))=true:=beq_iff_eq.mpr c3;have c3b1:((l0.length:Int) != (l1.length:Int))=false:=bne_eq_false_iff_eq.mpr c3;(have c3b2:(l0.length == l1.length)=true:=by first|simpa using c3|(simp at c3 ⊢;omega));clear c3;have H':=Aside0.mk H;clear H;go_enter Tryd.func21,Tryd.ntmps21;go_wp2;(repeat(go_quiet (fail);try go_wp2))
  go_loopg [5] k (fun kq v5 w' => ∃ (x5_1:Int),v5 = .int .i64 x5_1∧Aside0 (sennitref01_Same.l0 kq l0 l1 x5_1=some r)∧Aside0 (kq≤k)∧Drawn0 w w')
  (case atStart=>exact⟨(0),rs_,H',⟨Nat.le_refl _⟩,d0_⟩)
  case round =>
   clear H';(try clear c1);(try clear c2);(try clear p2);(try clear c3);(try clear c3b0);(try clear c3b1);(try clear c3b2);obtain⟨x5_1,rfl,HA,HK1,⟨m1,rfl⟩⟩:=hrel
   cases gk with
   | zero=>exact absurd HA.out (by simp[sennitref01_Same.l0])
   | succ k1 =>
    have H:=HA.out;clear HA;(simp only[sennitref01_Same.l0] at H)
    by_cases c4:x5_1 < (l0.length:Int)
    ·
     (rw[if_pos c4] at H);have c4b0:decide (x5_1 < (l0.length:Int))=true:=decide_eq_true c4;clear c4
     by_cases c5:0≤x5_1
     ·
      (rw[if_pos c5] at H);have c5b0:decide (0≤x5_1)=true:=decide_eq_true c5;clear c5
      by_cases c6:x5_1 < (l1.length:Int)
      ·
       (rw[if_pos c6] at H);have c6b0:decide (x5_1 < (l1.length:Int))=true:=decide_eq_true c6;clear c6
       by_cases c7:(rdOf ByteArray.empty l0 x5_1).toList=(rdOf ByteArray.empty l1 x5_1).toList
       ·
        (rw[if_pos c7] at H);have c7b0:((rdOf ByteArray.empty l0 x5_1).toList == (rdOf ByteArray.empty l1 x5_1).toList)=true:=beq_iff_eq.mpr c7;have c7b1:((rdOf ByteArray.empty l0 x5_1).toList != (rdOf ByteArray.empty l1 x5_1).toList)=false:=bne_eq_false_iff_eq.mpr c7;clear c7;have H':=Aside0.mk H;clear H;have p365:0≤(x5_1:Int):=dt_;have q365:x5_1 < (l0.length:Int):=dt_;obtain⟨ad365,e365,hx365_0⟩:=Kd.at_string HR0.out x5_1 p365 q365;cases e365;replace p365:=eq_true p365;replace q365:=eq_true q365;have p366:0≤(x5_1:Int):=dt_;have q366:x5_1 < (l1.length:Int):=dt_;obtain⟨ad366,e366,hx366_0⟩:=Kd.at_string HR1.out x5_1 p366 q366;cases e366;replace p366:=eq_true p366;replace q366:=eq_true q366;go_wp2;(repeat(go_quiet (fail);try go_wp2))
        go_roundg k1
        (case measure=>have:=HK1.out;omega);(case rel=>exact⟨(wrap64 (x5_1+1)),rs_,H',⟨by have:=HK1.out;omega⟩,d0_⟩)
       (· (rw[if_neg c7] at H);have c7b0:((rdOf ByteArray.empty l0 x5_1).toList == (rdOf ByteArray.empty l1 x5_1).toList)=false:=beq_eq_false_iff_ne.mpr c7;have c7b1:((rdOf ByteArray.empty l0 x5_1).toList != (rdOf ByteArray.empty l1 x5_1).toList)=true:=bne_iff_ne.mpr c7;obtain rfl:=Option.some.inj H;have p365:0≤(x5_1:Int):=dt_;have q365:x5_1 < (l0.length:Int):=dt_;obtain⟨ad365,e365,hx365_0⟩:=Kd.at_string HR0.out x5_1 p365 q365;cases e365;replace p365:=eq_true p365;replace q365:=eq_true q365;have p366:0≤(x5_1:Int):=dt_;have q366:x5_1 < (l1.length:Int):=dt_;obtain⟨ad366,e366,hx366_0⟩:=Kd.at_string HR1.out x5_1 p366 q366;cases e366;replace p366:=eq_true p366;replace q366:=eq_true q366;go_wp2;(repeat(go_quiet (fail);try go_wp2));go_ret;exact⟨by first|rfl|(simp;done)|(simp[*];done),d0_⟩)
      (· exact nx_ c6 H)
     (· exact nx_ c5 H)
    (· (rw[if_neg c4] at H);have c4b0:decide (x5_1 < (l0.length:Int))=false:=decide_eq_false c4;clear c4;obtain rfl:=Option.some.inj H;go_wp2;(repeat(go_quiet (fail);try go_wp2));go_ret;exact⟨by first|rfl|(simp;done)|(simp[*];done),d0_⟩)
 (· (rw[if_neg c3] at H);have c3b0:((l0.length:Int) == (l1.length:Int))=false:=beq_eq_false_iff_ne.mpr c3;have c3b1:((l0.length:Int) != (l1.length:Int))=true:=bne_iff_ne.mpr c3;(have c3b2:(l0.length == l1.length)=false:=by first|simpa using c3|(simp at c3 ⊢;omega));obtain rfl:=Option.some.inj H;go_enter Tryd.func21,Tryd.ntmps21;go_wp2;(repeat(go_quiet (fail);try go_wp2));go_ret;exact⟨by first|rfl|(simp;done)|(simp[*];done),d0_⟩)
mutual
def sennitref20_lost.j0:Nat→List ByteArray→List Int→Int→Int→Option (List ByteArray)
  | 0,_,_,_,_=>none
  | k+1,x0,x1,x2,x7=>sennitref20_lost.l0 k x0 x1 x2 x7 (x0.length:Int) (wrap64 ((x1.length:Int) - 1))
def sennitref20_lost.l0:Nat→List ByteArray→List Int→Int→Int→Int→Int→Option (List ByteArray)
  | 0,_,_,_,_,_,_=>none
  | k+1,x0,x1,x2,x7,x8,x9=>if x9 ≥ x2 then (if 0≤x9 then (if x9 < (x1.length:Int) then (if (rd x1 x9) ≥ 0 then (sennitref20_lost.l0 k x0 x1 x2 x7 (rd x1 x9) (wrap64 (x9 - 1))) else (sennitref20_lost.l0 k x0 x1 x2 x7 x8 (wrap64 (x9 - 1)))) else (none)) else (none)) else (if 0≤x7 then (if x7≤x8 then (if x8≤(x0.length:Int) then (some ((x0.take (x8:Int).toNat).drop (x7:Int).toNat)) else (none)) else (none)) else (none))
end
def sennitref20_lost.f (k:Nat) (l0:List ByteArray) (l1:List Int) (a2:Int):Option (List ByteArray):=if a2 > 0 then (if 0≤(wrap64 (a2 - 1)) then (if (wrap64 (a2 - 1)) < (l1.length:Int) then (if (rd l1 (wrap64 (a2 - 1)))=(-1) then (some ([]:List ByteArray)) else (sennitref20_lost.j0 k l0 l1 a2 (wrap64 ((rd l1 (wrap64 (a2 - 1)))+1)))) else (none)) else (none)) else (sennitref20_lost.j0 k l0 l1 a2 0)
theorem sennitref20_lost.calls (k:Nat) (P0_:Nat→Prop) (A0:Option Addr) (c0:Nat) (l0:List ByteArray) (A1:Option Addr) (c1:Nat) (l1:List Int) (a2:Int) (r:List ByteArray) (w:World) (hs0:Kd.V Kd.string 9 w w.heap.size (fun k_=>P0_ k_) (.slice A0 l0.length c0) l0) (hr1:Kd.C (Kd.int .i64) w A1 l1.length l1) (hc1:l1.length≤c1) (h:sennitref20_lost.f k l0 l1 a2=some r) :
    Calls Tryd.prog 78 #[.slice A0 l0.length c0, .slice A1 l1.length c1, .int .i64 a2] w fun e w' => ∃ v0_:Value,e = .returned (v0_)∧Kd.V Kd.string 9 w' w.heap.size (fun k_=>(P0_ k_∨w.heap.size≤k_)) v0_ r∧Below w.heap.size w w':=by
 have HO0:=Aside0.mk (show Kd.V Kd.string 9 w w.heap.size (fun k_=>(P0_ k_∨w.heap.size≤k_)) (.slice A0 l0.length c0) l0 from Kd.V_mono hs0 (fun k_ hk => .inl hk));have HR1:=Aside0.mk hr1;have HC1:=Aside0.mk hc1;clear hr1 hc1;have HB:=Aside0.mk (Below.refl w.heap.size w);have H:=h;(rw[sennitref20_lost.f] at H);clear h;have HC4:=Aside0.mk H;clear H;go_enter Tryd.func78,Tryd.ntmps78
 go_upto_if 11 with (fail)
 go_cut [7] (fun v7 wc => ∃ (kq:Nat) (x7_3:Int),v7 = .int .i64 x7_3∧Aside0 (sennitref20_lost.j0 kq l0 l1 a2 x7_3=some r)∧Aside0 (kq≤k)∧Aside0 (Kd.V Kd.string 9 wc w.heap.size (fun k_=>(P0_ k_∨w.heap.size≤k_)) (.slice A0 l0.length c0) l0)∧Aside0 (Below w.heap.size w wc))
 case first =>
  have H:=HC4.out;clear HC4
  by_cases c5:a2 > 0
  ·
   (rw[if_pos c5] at H);have c5b0:decide (0 < a2)=true:=decide_eq_true c5;clear c5;(first|rw[c5b0]|(simp only[i64_w,i32_w];rw[c5b0])|skip);obtain⟨ji6,hji6⟩ : ∃ j_:Int,(wrap64 (a2 - 1))=j_:=⟨_,rfl⟩;(first|rw[hji6] at H|simp only[hji6] at H);have hji6w:(IntKind.i64.wrap (a2 - 1))=ji6:=(i64_w _).trans hji6
   by_cases c7:0≤(ji6)
   ·
    (rw[if_pos c7] at H);have c7b0:decide (0≤(ji6))=true:=decide_eq_true c7;clear c7
    by_cases c8:(ji6) < (l1.length:Int)
    ·
     (rw[if_pos c8] at H);have c8b0:decide ((ji6) < (l1.length:Int))=true:=decide_eq_true c8;clear c8
     by_cases c9:(rd l1 (ji6))=(-1)
     (· (rw[if_pos c9] at H);have c9b0:((rd l1 (ji6)) == (-1))=true:=beq_iff_eq.mpr c9;have c9b1:((rd l1 (ji6)) != (-1))=false:=bne_eq_false_iff_eq.mpr c9;clear c9;obtain rfl:=Option.some.inj H;have p101:0≤((ji6):Int):=dt_;have q101:(ji6) < (l1.length:Int):=dt_;obtain⟨ad101,e101,hx101_0⟩:=Kd.at_int HR1.out (ji6) p101 q101;cases e101;replace hx101_0:=(HB.out.cell (World.block_lt_of_cell? w _ hx101_0)).trans hx101_0;replace p101:=eq_true p101;replace q101:=eq_true q101;go_wp2;go_ret;exact⟨_,by first|rfl|(simp[errW_none,errW_some] <;> rfl)|(simp only[← hji6];first|rfl|(simp[errW_none,errW_some] <;> rfl))|(simp[*,errW_none,errW_some] <;> rfl),(Kd.V_nil _ _ _ _ _),bel_⟩)
     ·
      (rw[if_neg c9] at H);have c9b0:((rd l1 (ji6)) == (-1))=false:=beq_eq_false_iff_ne.mpr c9;have c9b1:((rd l1 (ji6)) != (-1))=true:=bne_iff_ne.mpr c9;have H':=Aside0.mk H;clear H;have p101:0≤((ji6):Int):=dt_;have q101:(ji6) < (l1.length:Int):=dt_;obtain⟨ad101,e101,hx101_0⟩:=Kd.at_int HR1.out (ji6) p101 q101;cases e101;replace hx101_0:=(HB.out.cell (World.block_lt_of_cell? w _ hx101_0)).trans hx101_0;replace p101:=eq_true p101;replace q101:=eq_true q101;have p102:0≤((ji6):Int):=dt_;have q102:(ji6) < (l1.length:Int):=dt_;obtain⟨ad102,e102,hx102_0⟩:=Kd.at_int HR1.out (ji6) p102 q102;obtain rfl:ad101=ad102:=(by injection e102);replace hx102_0:=(HB.out.cell (World.block_lt_of_cell? w _ hx102_0)).trans hx102_0;replace p102:=eq_true p102;replace q102:=eq_true q102;go_wp2
      go_meet
      (case rel=>exact⟨_,(wrap64 ((rd l1 (ji6))+1)),(by first|rfl|(simp;done)|(simp only[← hji6] <;> (first|rfl|simp))|(simp[*];done)),H',⟨by first|omega|exact Nat.le_refl _⟩,⟨pV_ HO0.out⟩,⟨bel_⟩⟩)
    (· exact nx_ c8 H)
   (· exact nx_ c7 H)
  ·
   (rw[if_neg c5] at H);have c5b0:decide (0 < a2)=false:=decide_eq_false c5;clear c5;(first|rw[c5b0]|(simp only[i64_w,i32_w];rw[c5b0])|skip);have H':=Aside0.mk H;clear H;go_wp2
   go_meet
   (case rel=>exact⟨_,(0),rs_,H',⟨by first|omega|exact Nat.le_refl _⟩,⟨pV_ HO0.out⟩,⟨bel_⟩⟩)
 case rest =>
  clear HC4;(try clear c1);(try clear p1);(try clear q1);(try clear hx1);(try clear p2);(try clear c5);(try clear c5b0);(try clear p6);(try clear c7);(try clear c7b0);(try clear c8);(try clear c8b0);(try clear c9);(try clear c9b0);(try clear c9b1);(try clear hx101_0);(try clear hx102_0);(try clear p101);(try clear p102);(try clear q101);(try clear q102);obtain⟨kq,x7_3,rfl,HA,HJ3,HO_0,HB⟩:=hcut
  cases kq with
  | zero=>exact absurd HA.out (by simp[sennitref20_lost.j0])
  | succ kj3 =>
   have H:=HA.out;clear HA;(simp only[sennitref20_lost.j0] at H);have H':=Aside0.mk H;clear H;go_wp2
   go_loopg [8,9] kj3 (fun kq v8 v9 w' => ∃ (x8_2:Int) (x9_2:Int),v8 = .int .i64 x8_2∧v9 = .int .i64 x9_2∧Aside0 (sennitref20_lost.l0 kq l0 l1 a2 x7_3 x8_2 x9_2=some r)∧Aside0 (kq≤kj3)∧Aside0 (Kd.V Kd.string 9 w' w.heap.size (fun k_=>(P0_ k_∨w.heap.size≤k_)) (.slice A0 l0.length c0) l0)∧Aside0 (Below w.heap.size w w'))
   (case atStart=>exact⟨((l0.length:Int)),(wrap64 ((l1.length:Int) - 1)),rs_,rs_,H',⟨Nat.le_refl _⟩,⟨pV_ HO_0.out⟩,⟨bel_⟩⟩)
   case round =>
    clear H';(try clear c1);(try clear p1);(try clear q1);(try clear hx1);(try clear p2);(try clear c5);(try clear c5b0);(try clear p6);(try clear c7);(try clear c7b0);(try clear c8);(try clear c8b0);(try clear c9);(try clear c9b0);(try clear c9b1);(try clear hx101_0);(try clear hx102_0);(try clear p1);(try clear p101);(try clear p102);(try clear p2);(try clear p6);(try clear q1);(try clear q101);(try clear q102);obtain⟨x8_2,x9_2,rfl,rfl,HA,HK2,HO_0,HB⟩:=hrel
    cases gk with
    | zero=>exact absurd HA.out (by simp[sennitref20_lost.l0])
    | succ k2 =>
     have H:=HA.out;clear HA;(simp only[sennitref20_lost.l0] at H)
     by_cases c10:x9_2 ≥ a2
     ·
      (rw[if_pos c10] at H);have c10b0:decide (a2≤x9_2)=true:=decide_eq_true c10;clear c10
      by_cases c11:0≤x9_2
      ·
       (rw[if_pos c11] at H);have c11b0:decide (0≤x9_2)=true:=decide_eq_true c11;clear c11
       by_cases c12:x9_2 < (l1.length:Int)
       ·
        (rw[if_pos c12] at H);have c12b0:decide (x9_2 < (l1.length:Int))=true:=decide_eq_true c12;clear c12
        by_cases c13:(rd l1 x9_2) ≥ 0
        ·
         (rw[if_pos c13] at H);have c13b0:decide (0≤(rd l1 x9_2))=true:=decide_eq_true c13;clear c13;have H':=Aside0.mk H;clear H;have p103:0≤(x9_2:Int):=dt_;have q103:x9_2 < (l1.length:Int):=dt_;obtain⟨ad103,e103,hx103_0⟩:=Kd.at_int HR1.out x9_2 p103 q103;cases e103;replace hx103_0:=(HB.out.cell (World.block_lt_of_cell? w _ hx103_0)).trans hx103_0;replace p103:=eq_true p103;replace q103:=eq_true q103;have p104:0≤(x9_2:Int):=dt_;have q104:x9_2 < (l1.length:Int):=dt_;obtain⟨ad104,e104,hx104_0⟩:=Kd.at_int HR1.out x9_2 p104 q104;obtain rfl:ad103=ad104:=(by injection e104);replace hx104_0:=(HB.out.cell (World.block_lt_of_cell? w _ hx104_0)).trans hx104_0;replace p104:=eq_true p104;replace q104:=eq_true q104;go_wp2
         go_roundg k2
         (case measure=>have:=HJ3.out;have:=HK2.out;omega);(case rel=>exact⟨(rd l1 x9_2),(wrap64 (x9_2 - 1)),rs_,rs_,H',⟨by have:=HJ3.out;have:=HK2.out;omega⟩,⟨pV_ HO_0.out⟩,⟨bel_⟩⟩)
        ·
         (rw[if_neg c13] at H);have c13b0:decide (0≤(rd l1 x9_2))=false:=decide_eq_false c13;clear c13;have H':=Aside0.mk H;clear H;have p103:0≤(x9_2:Int):=dt_;have q103:x9_2 < (l1.length:Int):=dt_;obtain⟨ad103,e103,hx103_0⟩:=Kd.at_int HR1.out x9_2 p103 q103;cases e103;replace hx103_0:=(HB.out.cell (World.block_lt_of_cell? w _ hx103_0)).trans hx103_0;replace p103:=eq_true p103;replace q103:=eq_true q103;go_wp2
         go_roundg k2
         (case measure=>have:=HJ3.out;have:=HK2.out;omega);(case rel=>exact⟨(x8_2),(wrap64 (x9_2 - 1)),rs_,rs_,H',⟨by have:=HJ3.out;have:=HK2.out;omega⟩,⟨pV_ HO_0.out⟩,⟨bel_⟩⟩)
       (· exact nx_ c12 H)
      (· exact nx_ c11 H)
     ·
      (rw[if_neg c10] at H);have c10b0:decide (a2≤x9_2)=false:=decide_eq_false c10;clear c10
      by_cases c14:0≤x7_3
      ·
       (rw[if_pos c14] at H);have c14b0:=eq_true c14;have c14b1:decide (0≤x7_3)=true:=decide_eq_true c14;clear c14
       by_cases c15:x7_3≤x8_2
       ·
        (rw[if_pos c15] at H);have c15b0:=eq_true c15;have c15b1:decide (x7_3≤x8_2)=true:=decide_eq_true c15;clear c15
        by_cases c16:x8_2≤(l0.length:Int)
        (· (rw[if_pos c16] at H);have c16b0:=eq_true c16;have c16b1:decide (x8_2≤(l0.length:Int))=true:=decide_eq_true c16;clear c16;obtain⟨y105,hy105⟩ : ∃ y_:List ByteArray,y_=((l0.take (x8_2:Int).toNat).drop (x7_3:Int).toNat):=⟨_,rfl⟩;((try rw[Option.bind_some] at H);rw[← hy105] at H);have Ny105:=Aside0.mk hy105;clear hy105;obtain rfl:=Option.some.inj H;have q17:(x8_2:Int)≤((l0.length:Int):Int):=dt_;obtain⟨i017,hi017,_,hsz17,_⟩:=info_parts info9;have hroom17:l0.length≤c0:=(Kd.V_reads' HO_0.out).2.1;have hC17:Kd.F Kd.string _ _ A0 l0.length l0:=(Kd.V_at (base:=w.heap.size) HO_0.out).2.2;have ql17:(x7_3:Int)≤(x8_2:Int):=dt_;have q017:(0:Int)≤(x7_3:Int):=dt_;have hcut17:=cut_mid (P:=Tryd.prog) 23 9 .i64 .i64 Tryd.underlying23 hi017 1 hsz17 A0 l0.length c0 x7_3 x8_2 q017 ql17 q17 hroom17;have hr17:=Kd.F_mid (lo:=(x7_3:Int).toNat) (hi:=(x8_2:Int).toNat) (c:=c0) hC17 (by omega) (by omega) hroom17;obtain⟨A17,hA17⟩ : ∃ Az_,Az_=(if c0=(x7_3:Int).toNat then A0 else (A0:Option Addr).map (·.add ((x7_3:Int).toNat * 1))):=⟨_,rfl⟩;obtain⟨c17,hc17⟩ : ∃ c1,c1=c0 - (x7_3:Int).toNat:=⟨_,rfl⟩;have hy17:y105.length=(x8_2:Int).toNat - (x7_3:Int).toNat:=(by rw[Ny105.out,List.length_drop,List.length_take] <;> omega);(rw[show ((l0).take (x8_2:Int).toNat).drop (x7_3:Int).toNat=y105 from Ny105.out.symm] at hr17);replace hr17:Kd.F Kd.string _ _ A17 y105.length y105:=(by rw[hA17];exact hr17);(rw[← hy17,← hA17,← hc17] at hcut17);have HO109:=Aside0.mk (show Kd.V Kd.string 9 _ w.heap.size _ (.slice A17 y105.length c17) y105 from Kd.V_mk (by rw[hy17,hc17];exact Nat.sub_le_sub_right (Nat.le_trans (by omega) hroom17) _) hr17);have HC109:=Aside0.mk (show y105.length≤c17 from by rw[hy17,hc17];exact Nat.sub_le_sub_right (Nat.le_trans (by omega) hroom17) _);clear hr17 hC17 hroom17 hi017 hsz17 hc17;have KY17:=Aside0.mk hy17;have KA17:=Aside0.mk hA17;clear hy17 hA17;replace q17:=eq_true q17;go_wp2;go_ret;exact⟨_,ew_,by(with_reducible repeat(first|apply Kd.V_alloc|apply Kd.V_drewN|apply Kd.V_drew));exact HO109.out,bel_⟩);(· exact nx_ c16 H)
       (· exact nx_ c15 H)
      (· exact nx_ c14 H)
def sennitref20_ahead.l0:Nat→List (List ByteArray)→List (List Int)→Int→List (List ByteArray)→Int→Option ((List (S57)) × Int)
  | 0,_,_,_,_,_=>none
  | k+1,x0,x1,x2,x8,x9=>if x9 < (x0.length:Int) then (if 0≤x9 then (if x9 < (x1.length:Int) then ((sennitref20_lost.f k (rd_L8 x0 x9) (rd_L13 x1 x9) x2).bind fun t112=>(if x8.length < 5864062014805 then (sennitref20_ahead.l0 k x0 x1 x2 (x8 ++ [t112]) (wrap64 (x9+1))) else (none))) else (none)) else (none)) else ((sennitref19_Coalesce.f k x8).bind fun bt118=>(some (bt118.1,bt118.2)))
def sennitref20_ahead.f (k:Nat) (l0:List (List ByteArray)) (l1:List (List Int)) (a2:Int):Option ((List (S57)) × Int):=sennitref20_ahead.l0 k l0 l1 a2 ([]:List (List ByteArray)) 0
def sennitref20_ahead.T5:Bool × List (List Nat × List Nat):=(true,[([],[]),([],[]),([],[]),([1,2],[1,2]),([3],[3]),([],[]),([],[]),([5,6],[5,6]),([7],[7]),([],[]),([4,8,9],[4,8,9]),([10],[10]),([0,11,10],[0,11]),([12,12,0,1,2,3,4,5,6,7,8,9,10,11,12],[0,12])])
def sennitref20_ahead.B5:List Nat:=[0,0,0,6,14,0,0,96,224,0,1022,2046,4095,8191]
theorem sennitref20_ahead.tab5:rtab .any (opsOf Tryd.f48 5)=sennitref20_ahead.T5:=by kernel_rfl
theorem sennitref20_ahead.bits5:waitsOk sennitref20_ahead.T5.2 sennitref20_ahead.B5=true:=by kernel_rfl
theorem sennitref20_ahead.calls (k:Nat) (A0:Option Addr) (c0:Nat) (l0:List (List ByteArray)) (A1:Option Addr) (c1:Nat) (l1:List (List Int)) (a2:Int) (r1:List (S57)) (r2:Int) (w:World) (hr0:Kd.C (Kd.slice 9 Kd.string) w A0 l0.length l0) (hc0:l0.length≤c0) (hr1:Kd.C (Kd.slice 3 (Kd.int .i64)) w A1 l1.length l1) (hc1:l1.length≤c1) (h:sennitref20_ahead.f k l0 l1 a2=some (r1,r2)) :
    Calls Tryd.prog 48 #[.slice A0 l0.length c0, .slice A1 l1.length c1, .int .i64 a2] w fun e w' => ∃ v0_:Value,e = .returned (.tuple #[v0_, .int .i64 r2])∧Kd.R k57 57 w' w.heap.size (fun _=>True) v0_ r1∧Below w.heap.size w w':=by
 have HR0:=Aside0.mk hr0;have HC0:=Aside0.mk hc0;clear hr0 hc0;have HR1:=Aside0.mk hr1;have HC1:=Aside0.mk hc1;clear hr1 hc1;have HB:=Aside0.mk (Below.refl w.heap.size w);have H:=h;(rw[sennitref20_ahead.f] at H);clear h;have H':=Aside0.mk H;clear H;go_enter Tryd.func48,Tryd.ntmps48;go_wp2
 go_loopg [8,9] k (fun kq v8 v9 w' => ∃ (x8_1:List (List ByteArray)) (x9_1:Int),v9 = .int .i64 x9_1∧Aside0 (sennitref20_ahead.l0 kq l0 l1 a2 x8_1 x9_1=some (r1,r2))∧Aside0 (kq≤k)∧Aside0 (Kd.N (Kd.slice 9 Kd.string) 23 w' w.heap.size (fun _=>True) v8 x8_1)∧Aside0 (Below w.heap.size w w'))
 (case atStart=>exact⟨(([]:List (List ByteArray))),(0),rs_,H',⟨Nat.le_refl _⟩,⟨by first|exact Kd.S_nil _ _ _ _ _|exact Kd.N_nil _ _ _ _ _|exact Kd.V_nil _ _ _ _ _|exact Kd.Q_nil _ _ _ _ _|exact Kd.R_nil _ _ _ _ _⟩,⟨bel_⟩⟩)
 case round =>
  clear H';(try clear c1);(try clear p2);obtain⟨x8_1,x9_1,rfl,HA,HK1,HO_8,HB⟩:=hrel
  cases gk with
  | zero=>exact absurd HA.out (by simp[sennitref20_ahead.l0])
  | succ k1 =>
   have H:=HA.out;clear HA;(simp only[sennitref20_ahead.l0] at H)
   by_cases c4:x9_1 < (l0.length:Int)
   ·
    (rw[if_pos c4] at H);have c4b0:decide (x9_1 < (l0.length:Int))=true:=decide_eq_true c4;clear c4
    by_cases c5:0≤x9_1
    ·
     (rw[if_pos c5] at H);have c5b0:decide (0≤x9_1)=true:=decide_eq_true c5;clear c5
     by_cases c6:x9_1 < (l1.length:Int)
     ·
      (rw[if_pos c6] at H);have c6b0:decide (x9_1 < (l1.length:Int))=true:=decide_eq_true c6;clear c6;replace H:=Option.bind_eq_some_iff.mp H;obtain⟨t112,A70,H⟩:=H;(try dsimp only at H);have A7:=Aside0.mk A70;clear A70
      by_cases c8:x8_1.length < 5864062014805
      ·
       (rw[if_pos c8] at H);have LMc8:=Aside0.mk c8;clear c8;obtain⟨y115,hy115⟩ : ∃ y_:List (List ByteArray),y_=(x8_1 ++ [t112]):=⟨_,rfl⟩;((try rw[Option.bind_some] at H);rw[← hy115] at H);have Ny115:=Aside0.mk hy115;clear hy115;have H':=Aside0.mk H;clear H;(try go_wp2);replace HO_8:=Aside0.mk (Kd.N_drew HO_8.out);replace HB:=Aside0.mk (below_drew1 HB.out);have p110:0≤(x9_1:Int):=dt_;have q110:x9_1 < (l0.length:Int):=dt_;obtain⟨ad110,A110_0,c110_0,e110,hx110_0,hl110_0,hi110_0⟩:=at_L8 HR0.out x9_1 p110 q110;have hw110_0:=hx110_0;cases e110;replace hx110_0:=(HB.out.cell (World.block_lt_of_cell? w _ hx110_0)).trans hx110_0;have HR110_0:=Aside0.mk hi110_0;have HC110_0:=Aside0.mk hl110_0;clear hi110_0 hl110_0;replace p110:=eq_true p110;replace q110:=eq_true q110;have p111:0≤(x9_1:Int):=dt_;have q111:x9_1 < (l1.length:Int):=dt_;obtain⟨ad111,A111_0,c111_0,e111,hx111_0,hl111_0,hi111_0⟩:=at_L13 HR1.out x9_1 p111 q111;have hw111_0:=hx111_0;cases e111;replace hx111_0:=(HB.out.cell (World.block_lt_of_cell? w _ hx111_0)).trans hx111_0;have HR111_0:=Aside0.mk hi111_0;have HC111_0:=Aside0.mk hl111_0;clear hi111_0 hl111_0;replace p111:=eq_true p111;replace q111:=eq_true q111;(refine start_ (n:=14) (S:=fun w'=>w'.cell? (ad110.add (x9_1).toNat)=some (.slice A110_0 (rd_L8 l0 x9_1).length c110_0)∧w'.cell? (ad111.add (x9_1).toNat)=some (.slice A111_0 (rd_L13 l1 x9_1).length c111_0)) (ds:=[]) (bm_ 14 0) (by kernel_rfl) rfl rfl ⟨((HB.out.cell (World.block_lt_of_cell? w _ hw110_0)).trans hw110_0),((HB.out.cell (World.block_lt_of_cell? w _ hw111_0)).trans hw111_0)⟩ (fun hHeld=>?_);refine with_tabW sennitref20_ahead.tab5 sennitref20_ahead.bits5 (fun HT_ HW_=>?_));(generalize wr.drew=w9 at HO_8 HB HR110_0 HR111_0 hx110_0 hx111_0 hHeld ⊢);refine pq_ (i:=0) (N:=some 16) (hc:=any_of HT_.out (by kernel_rfl)) (bm_ 14 1) ?_;refine pq_ (i:=1) (N:=some 17) (hc:=any_of HT_.out (by kernel_rfl)) (bm_ 14 3) ?_;refine pq_ (i:=2) (N:=some 18) (hc:=any_of HT_.out (by kernel_rfl)) (bm_ 14 7) ?_;refine pq_ (i:=3) (N:=some 19) (hc:=any_of HT_.out (by kernel_rfl)) (bm_ 14 15) ?_;refine pq_ (i:=5) (N:=some 21) (hc:=any_of HT_.out (by kernel_rfl)) (bm_ 14 47) ?_;refine pq_ (i:=6) (N:=some 22) (hc:=any_of HT_.out (by kernel_rfl)) (bm_ 14 111) ?_;refine pq_ (i:=7) (N:=some 23) (hc:=any_of HT_.out (by kernel_rfl)) (bm_ 14 239) ?_;refine pq_ (i:=9) (N:=some 25) (hc:=any_of HT_.out (by kernel_rfl)) (bm_ 14 751) ?_;refine tq_ (i:=4) (N:=some 20) (hc:=take_ofW HT_.out HW_.out (by kernel_rfl)) (bm_ 14 767) hHeld ?_
       refine tq_ (i:=8) (N:=some 24) (hc:=take_ofW HT_.out HW_.out (by kernel_rfl)) (bm_ 14 1023) hHeld ?_;refine one_ (i:=10) (N:=some 26) (bm_ 14 2047) rfl rfl (one_of HT_.out (by kernel_rfl)) (by decide) (fun K hK=>?_);refine goes_ Tryd.func78 (by kernel_rfl) rfl #[.slice A110_0 (rd_L8 l0 x9_1).length c110_0, .slice A111_0 (rd_L13 l1 x9_1).length c111_0, .int .i64 a2] (by rfl) rfl rfl am_ ?_;(with_reducible refine(sennitref20_lost.calls k1 (fun k_=>k_ < w.heap.size) _ _ (rd_L8 l0 x9_1) _ _ (rd_L13 l1 x9_1) a2 t112 _ ?side1 ?side2 ?side3 A7.out).mono ?_);(case side1=>exact Kd.V_mk HC110_0.out (Kd.F_below (Kd.C_F Kd.heap_string HR110_0.out) bel_));(case side2=>repeat(first|exact(Kd.C_below HR111_0.out HB.out)|(with_reducible refine Kd.C_alloc ?_ _)|(with_reducible refine Kd.C_drewN ?_ _)|(with_reducible refine Kd.C_drew ?_)));(case side3=>exact HC111_0.out);rintro e w10 ⟨v113,rfl,ho0,hb⟩;refine⟨_,rfl,?_⟩;have HO114:=Aside0.mk (Kd.V_lower (Kd.V_mono (ok':=fun k_=>some k_≠(u8:Value).ownBlock) ho0 (fun k_ hk_=>Or.elim hk_ (fun hs_=>fun e_=>Nat.not_le.2 hs_ (Kd.N_base HO_8.out k_ e_.symm)) (fun hn_=>(Kd.fresh' (Kd.N_lt (pN_ HO_8.out)) k_ hn_)))) (bsz bel_));replace HO_8:=Aside0.mk (Kd.N_below (pN_ HO_8.out) hb);replace HB:=Aside0.mk (bst bel_ hb);(try clear hb);(try clear hb2);(try clear hk);(try clear hi);(try clear ho0);obtain⟨Ao12,co12,eo12⟩:=Kd.V_slice HO114.out;(first|subst eo12|(injection eo12 with f1_ f2_ f3_;have f4_:=f1_.symm;have f5_:=f3_.symm;clear f1_ f2_ f3_;subst f4_;subst f5_));refine hK.out _ _ ⟨((HB.out.cell (World.block_lt_of_cell? w _ hw110_0)).trans hw110_0),((HB.out.cell (World.block_lt_of_cell? w _ hw111_0)).trans hw111_0)⟩ (fun hHeld=>?_);clear hK K;refine nq_ (N:=some 26) ?_;refine one_ (i:=11) (N:=some 27) (bm_ 14 4095) rfl rfl (one_of HT_.out (by kernel_rfl)) (by decide) (fun K hK=>?_);refine value_ (w1:=?_) (v:=?_) (by rfl) rfl ?_ ?_;rotate_left 2
       ·
        go_simp;constructor;(· rfl);(· rfl)
       refine hK.out _ _ ⟨(World.cell?_alloc_lt _ _ _ (World.block_lt_of_cell? _ _ (((HB.out.cell (World.block_lt_of_cell? w _ hw110_0)).trans hw110_0)))).trans (((HB.out.cell (World.block_lt_of_cell? w _ hw110_0)).trans hw110_0)),(World.cell?_alloc_lt _ _ _ (World.block_lt_of_cell? _ _ (((HB.out.cell (World.block_lt_of_cell? w _ hw111_0)).trans hw111_0)))).trans (((HB.out.cell (World.block_lt_of_cell? w _ hw111_0)).trans hw111_0))⟩ (fun hHeld=>?_);clear hK K;refine nq_ (N:=some 27) ?_;refine one_ (i:=12) (N:=some 28) (bm_ 14 8191) rfl rfl (one_of HT_.out (by kernel_rfl)) (by decide) (fun K hK=>?_);refine Kd.N_append_step (Kd.slice 9 Kd.string) (w0:=w) w.heap.size (by rfl) (.tmp 16) (.tmp 27) 34 23 (.slice none 0 0) 24 rfl Tryd.underlying34 info23 rfl (by decide) (by omega) u8 x8_1 t112 [.slice Ao12 t112.length co12] (fun _=>True) (fun k_=>((fun _=>True)) k_∧some k_≠(u8:Value).ownBlock) rfl rfl ?aP (fun _ hk=>hk) ?aF ?aO ?aB ?aS ?aL ?_;(case aP=>exact(Kd.FK_slice_mk (Kd.V_reads' (Kd.V_mono (ok':=(fun k_=>((fun _=>True)) k_∧some k_≠(u8:Value).ownBlock)) (HO114.out) (fun k_ hk=>⟨trivial,hk⟩))).2.1 (Kd.V_F (Kd.V_mono (ok':=(fun k_=>((fun _=>True)) k_∧some k_≠(u8:Value).ownBlock)) (HO114.out) (fun k_ hk=>⟨trivial,hk⟩)))));(case aB=>exact bel_);(case aF=>exact(fun _ _=>trivial));(case aO=>exact(pN_ HO_8.out));(case aS=>exact(bsz bel_));(case aL=>have:=LMc8.out;omega);intro v116 w11 ho hb hg hat;(rw[← Ny115.out] at ho);replace HO114:=Aside0.mk (Kd.V_afterv (ok:=(fun _=>True)) (Kd.V_mono (pV_ HO114.out) (fun _ hk=>⟨trivial,hk⟩)) hg hat);replace HB:=Aside0.mk (hb);have HO117:=Aside0.mk (ho);clear HO_8;clear ho hb hg hat;refine hK.out _ _ ⟨((HB.out.cell (World.block_lt_of_cell? w _ hw110_0)).trans hw110_0),((HB.out.cell (World.block_lt_of_cell? w _ hw111_0)).trans hw111_0)⟩ (fun hHeld=>?_);clear hK K;refine nq_ (N:=some 28) ?_;refine pq_ (i:=13) (N:=some 8) (hc:=any_of HT_.out (by kernel_rfl)) (bm_ 14 16383) ?_;refine done_ (done_of HT_.out (by kernel_rfl)) ?_;(try go_wp2)
       go_roundg k1
       (case measure=>have:=HK1.out;omega);(case rel=>exact⟨(y115),(wrap64 (x9_1+1)),rs_,H',⟨by have:=HK1.out;omega⟩,⟨pN_ HO117.out⟩,⟨bel_⟩⟩)
      (· exact nx_ c8 H)
     (· exact nx_ c6 H)
    (· exact nx_ c5 H)
   (· (rw[if_neg c4] at H);have c4b0:decide (x9_1 < (l0.length:Int))=false:=decide_eq_false c4;clear c4;replace H:=Option.bind_eq_some_iff.mp H;obtain⟨⟨t118,t119⟩,A130,H⟩:=H;(try dsimp only at H);have A13:=Aside0.mk A130;clear A130;(simp only[Option.some.injEq,Prod.mk.injEq] at H);obtain⟨rfl,rfl⟩:=H;obtain⟨Ao14,co14,eo14⟩:=Kd.N_slice HO_8.out;subst eo14;(go_wp2_with (first|((with_reducible refine gate_callee (f:=79) rfl ?_);refine goesL_ (some 30) rfl rfl Tryd.func79 (by kernel_rfl) rfl #[.slice Ao14 x8_1.length co14] rfl am_ ?_;(with_reducible refine(sennitref19_Coalesce.calls k1 _ _ x8_1 t118 t119 _ ?side1 ?side2 A13.out).mono ?_);(case side1=>repeat(first|exact(Kd.N_reads' HO_8.out).2.2|(with_reducible refine Kd.C_alloc ?_ _)|(with_reducible refine Kd.C_drewN ?_ _)|(with_reducible refine Kd.C_drew ?_)));(case side2=>exact(Kd.N_reads' HO_8.out).2.1);rintro e w15 ⟨v120,rfl,ho0,hb⟩;refine⟨_,rfl,?_⟩;replace HO_8:=Aside0.mk (Kd.N_elder' (pN_ HO_8.out) (Kd.R_base ho0) hb);have HO121:=Aside0.mk (Kd.R_lower ho0 (bsz bel_));replace HB:=Aside0.mk (bst bel_ hb);(try clear hb);(try clear hb2);(try clear hk);(try clear hi);(try clear ho0))));go_ret2;exact⟨_,ew_,by(with_reducible repeat(first|apply Kd.R_alloc|apply Kd.R_drewN|apply Kd.R_drew));exact HO121.out,bel_⟩)
end Go.Proofs.YthcnfflhejogfaaDoor.X
