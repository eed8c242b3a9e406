/- Parts of one proof. -/
import Derived.Test.YthcnfflhejogfaaDoorBApplyNothing7
set_option linter.unusedVariables false
set_option linter.unusedSimpArgs false
set_option maxRecDepth 100000
set_option maxHeartbeats 8000000
namespace Go.Proofs.YthcnfflhejogfaaDoor.X
open Go.RowKit YthcnfflhejogfaaDoorW.PrintWords YthcnfflhejogfaaDoorW.PrintLast YthcnfflhejogfaaDoorW.PrintMore
abbrev ApiRow:=S57
theorem apiRow_ext {x y:ApiRow} (h0:x.f0=y.f0) (h1:x.f1=y.f1):x=y:=by
 (cases x;cases y;cases h0;cases h1;rfl)
instance apiRowDec:DecidableEq ApiRow:=fun x y=>decidable_of_iff (x.f0=y.f0∧x.f1=y.f1) ⟨fun h=>apiRow_ext h.1 h.2,fun h=>by rw[h];exact⟨rfl,rfl⟩⟩
theorem index45_cases (u:List UInt8):(¬ (45:UInt8) ∈ u∧Lib.indexByte u 45 = -1)∨((45:UInt8) ∈ u∧0≤Lib.indexByte u 45):=by
 induction u with
 | nil=>left;simp[Lib.indexByte]
 | cons x xs ih =>
  simp only[Lib.indexByte,List.mem_cons]
  by_cases e:x=45
  (· (right;simp[e]))
  ·
   (have e':(x == 45)=false:=by simp[e]);(have e2 : ¬ (45:UInt8)=x:=fun h=>e h.symm);rw[e']
   rcases ih with ⟨h1,h2⟩|⟨h1,h2⟩
   (· (left;simp[h1,h2,e2]));(· right;refine⟨.inr h1,?_⟩;rw[if_neg (by decide),if_neg (by simp;omega)];omega)
theorem index45 (u:List UInt8):decide (0≤Lib.indexByte u 45)=decide ((45:UInt8) ∈ u):=by
 rw[decide_eq_decide]
 rcases index45_cases u with ⟨h1,h2⟩|⟨h1,h2⟩
 (· simp[h1,h2]);(· simp[h1,h2])
theorem byte45 (c:UInt8):((c.toNat:Int)=45)↔c=45:=by
 constructor;(· intro h;(have:c.toNat=45:=by omega);exact UInt8.toNat_inj.1 this);(· (rintro rfl;rfl))
theorem lostB_mem (s:ByteArray):lostB s=decide ((45:UInt8) ∈ s.data.toList):=index45 _
theorem ref_Lost20 (s t:ByteArray) (hs:s.size≤1000000000):Gives (fun k=>sennitref20_Lost.f k s t) (lostB s):=by
 have hl : ∀ (r i:Nat),i+r=s.size→Gives (fun k=>sennitref20_Lost.l0 k (i:Int) s t) (decide ((45:UInt8) ∈ s.data.toList.drop i)):=by
  intro r
  induction r with
  | zero =>
   intro i hi;(refine Gives.of fun k=>?_);show sennitref20_Lost.l0 (k+1) (i:Int) s t=_;rw[sennitref20_Lost.l0,if_neg (by omega),List.drop_of_length_le (by rw[← sizeLen];omega)];simp
  | succ r ih =>
   intro i hi;(have hil:i < s.size:=by omega);have hd:=dropCons (l:=s.data.toList) (i:=i) (by rw[← sizeLen];exact hil);rw[hd]
   by_cases e:s.data.toList[i]'(by rw[← sizeLen];exact hil)=45
   (· (refine Gives.of fun k=>?_);show sennitref20_Lost.l0 (k+1) (i:Int) s t=_;rw[sennitref20_Lost.l0,if_pos (by omega),if_pos (by omega),btN hil,if_pos ((byte45 _).2 e),e];simp);(· (have e2 : ¬ (45:UInt8)=s.data.toList[i]'(by rw[← sizeLen];exact hil):=fun h=>e h.symm);(refine((ih (i+1) (by omega)).eq (by simp only[List.mem_cons,e2,false_or])).step fun k=>?_);show sennitref20_Lost.l0 (k+1) (i:Int) s t=_;rw[sennitref20_Lost.l0,if_pos (by omega),if_pos (by omega),btN hil,if_neg (fun h=>e ((byte45 _).1 h)),gw1 (by omega)])
 rw[lostB_mem];(exact(hl s.size 0 (by omega)).same fun k=>rfl)
theorem ref_Of20 (s t:ByteArray) (i:Int) (hs:s.size≤1000000000):Gives (fun k=>sennitref20_Of.f k s t i) (ofB i s):=by
 (refine Gives.last0 (ref_Lost20 s t hs) fun k hk=>?_);show sennitref20_Of.f k s t i=_;rw[sennitref20_Of.f]
 by_cases h0:i < 0
 (· (rw[if_pos h0,ofB,decide_eq_false (show ¬ 0≤i by omega)];rfl))
 ·
  rw[if_neg h0]
  by_cases h1:i ≥ (s.size:Int)
  (· (rw[if_pos h1,ofB,decide_eq_false (show ¬ i < (s.size:Int) by omega)];simp))
  ·
   rw[if_neg h1,if_pos (by omega),if_pos (by omega),hk,Option.bind_some,ofB,decide_eq_true (show 0≤i by omega),decide_eq_true (show i < (s.size:Int) by omega),Bool.true_and,Bool.true_and]
   by_cases h2:bt s i=45
   (· rw[if_pos h2,decide_eq_true h2,Bool.true_or])
   ·
    rw[if_neg h2,decide_eq_false h2,Bool.false_or]
    by_cases h3:bt s i=32
    (· rw[if_pos h3,decide_eq_true h3,Bool.true_and]);(· rw[if_neg h3,decide_eq_false h3,Bool.false_and])
section
variable {R:List ApiRow}
theorem ref_Column20 (i:Int) (hR:R.length≤100000) (hz : ∀ x ∈ R,x.f0.size≤1000000000):Gives (fun k=>sennitref20_Column.f k R i) ((R.filter (fun x=>ofB i x.f0)).map (·.f1)):=by
 have hl : ∀ (r a:Nat) (out:List ByteArray),a+r=R.length→out.length≤a→Gives (fun k=>sennitref20_Column.l0 k R i out (a:Int)) (out ++ ((R.drop a).filter (fun x=>ofB i x.f0)).map (·.f1)):=by
  intro r
  induction r with
  | zero =>
   intro a out ha ho;(refine Gives.of fun k=>?_);show sennitref20_Column.l0 (k+1) R i out (a:Int)=_;rw[sennitref20_Column.l0,if_neg (by omega),List.drop_of_length_le (by omega)];simp
  | succ r ih =>
   intro a out ha ho;(have haR:a < R.length:=by omega);have e:rd_T57 R (a:Int)=R[a]:=getN haR;have ho20:=ref_Of20 R[a].f0 R[a].f1 i (hz _ (List.getElem_mem _));rw[dropCons haR]
   cases hb:ofB i R[a].f0 with
   | true =>
    rw[List.filter_cons_of_pos (by exact hb),List.map_cons];have:=ih (a+1) (out ++ [R[a].f1]) (by omega) (by simp;omega);(rw[List.append_assoc,List.singleton_append] at this);(refine Gives.call ho20 this fun k hk=>?_);show sennitref20_Column.l0 (k+1) R i out (a:Int)=_;(have hk':sennitref20_Of.f k R[a].f0 R[a].f1 i=some true:=by rw[← hb];exact hk);rw[sennitref20_Column.l0,if_pos (by omega),if_pos (by omega),e,hk',Option.bind_some,if_pos rfl,if_pos (by omega),gw1 (by omega)]
   | false =>
    rw[List.filter_cons_of_neg (by rw[hb];decide)];(refine Gives.call ho20 (ih (a+1) out (by omega) (by omega)) fun k hk=>?_);show sennitref20_Column.l0 (k+1) R i out (a:Int)=_;(have hk':sennitref20_Of.f k R[a].f0 R[a].f1 i=some false:=by rw[← hb];exact hk);rw[sennitref20_Column.l0,if_pos (by omega),if_pos (by omega),e,hk',Option.bind_some,if_neg (by decide),gw1 (by omega)]
 have:=hl R.length 0 [] (by omega) (by simp);(exact this.same fun k=>rfl)
theorem ref_Result20 (hR:R.length≤100000) (hz : ∀ x ∈ R,x.f0.size≤1000000000):Gives (fun k=>sennitref20_Result.f k R) ((R.filter (fun x => !lostB x.f0)).map (·.f1)):=by
 have hl : ∀ (r a:Nat) (out:List ByteArray),a+r=R.length→out.length≤a→Gives (fun k=>sennitref20_Result.l0 k R out (a:Int)) (out ++ ((R.drop a).filter (fun x => !lostB x.f0)).map (·.f1)):=by
  intro r
  induction r with
  | zero =>
   intro a out ha ho;(refine Gives.of fun k=>?_);show sennitref20_Result.l0 (k+1) R out (a:Int)=_;rw[sennitref20_Result.l0,if_neg (by omega),List.drop_of_length_le (by omega)];simp
  | succ r ih =>
   intro a out ha ho;(have haR:a < R.length:=by omega);have e:rd_T57 R (a:Int)=R[a]:=getN haR;have ho20:=ref_Lost20 R[a].f0 R[a].f1 (hz _ (List.getElem_mem _));rw[dropCons haR]
   cases hb:lostB R[a].f0 with
   | false =>
    rw[List.filter_cons_of_pos (by rw[hb];rfl),List.map_cons];have:=ih (a+1) (out ++ [R[a].f1]) (by omega) (by simp;omega);(rw[List.append_assoc,List.singleton_append] at this);(refine Gives.call ho20 this fun k hk=>?_);show sennitref20_Result.l0 (k+1) R out (a:Int)=_;(have hk':sennitref20_Lost.f k R[a].f0 R[a].f1=some false:=by rw[← hb];exact hk);rw[sennitref20_Result.l0,if_pos (by omega),if_pos (by omega),e,hk',Option.bind_some,if_neg (by decide),if_pos (by omega),gw1 (by omega)]
   | true =>
    rw[List.filter_cons_of_neg (by rw[hb];decide)];(refine Gives.call ho20 (ih (a+1) out (by omega) (by omega)) fun k hk=>?_);show sennitref20_Result.l0 (k+1) R out (a:Int)=_;(have hk':sennitref20_Lost.f k R[a].f0 R[a].f1=some true:=by rw[← hb];exact hk);rw[sennitref20_Result.l0,if_pos (by omega),if_pos (by omega),e,hk',Option.bind_some,if_pos rfl,gw1 (by omega)]
 have:=hl R.length 0 [] (by omega) (by simp);(exact this.same fun k=>rfl)
theorem col_f (i:Int) (hR:R.length≤1000000000) (hz : ∀ x ∈ R,x.f0.size≤1000000000):table_Column.f R i=some ((R.filter (fun x=>ofB i x.f0)).map (·.f1)):=by
 rw[table_Column.f,if_pos ⟨hR,fun x hx=>by have:=hz x hx;omega⟩]
theorem res_f (hR:R.length≤1000000000) (hz : ∀ x ∈ R,x.f0.size≤1000000000):table_Result.f R=some ((R.filter (fun x => !lostB x.f0)).map (·.f1)):=by
 rw[table_Result.f,if_pos ⟨hR,fun x hx=>by have:=hz x hx;omega⟩]
end
def FewR (rows:List RowH):Prop:=rows.length≤40 ∧ ∀ x ∈ rows,x.f0.size≤20∧x.f1.size≤100
theorem FewR.low {rows:List RowH} (h:FewR rows):lowB rows=true:=lowB_mk (by have:=h.1;omega) (fun x hx=>by have:=h.2 x hx;omega) (fun x hx=>by have:=h.2 x hx;omega)
theorem passN_count : ∀ (rows:List RowH) (n:Int),passN rows n=n+((rows.filter (fun x => !lostB x.f0)).length:Int)
 | [],n=>by simp[passN]
 | x :: rows,n=>by
  show passN rows (n+oneB (!lostB x.f0))=_;rw[passN_count rows,List.filter_cons]
  cases h : !lostB x.f0 with
  | true=>rw[if_pos rfl,List.length_cons];simp only[oneB,if_true];omega
  | false=>rw[if_neg (by decide)];simp only[oneB,Bool.false_eq_true,if_false];omega
theorem passR_count {i:Nat} : ∀ (rows:List RowH) (olds:List Int),i < olds.length→(passR rows olds).getD i 0=olds.getD i 0+((rows.filter (fun x=>ofB (i:Int) x.f0)).length:Int)
 | [],olds,_=>by simp[passR]
 | x :: rows,olds,h=>by
  show (passR rows (passL x.f0 olds)).getD i 0=_;rw[passR_count rows _ (by rw[passL_len];exact h),passL_get _ _ h,List.filter_cons]
  cases h:ofB (i:Int) x.f0 with
  | true=>rw[if_pos rfl,List.length_cons];simp only[oneB,if_true];omega
  | false=>rw[if_neg (by decide)];simp only[oneB,Bool.false_eq_true,if_false];omega
theorem ctN_eq (rows:List RowH) (f:Nat):ctN rows f=(((rows.take f).filter (fun x => !lostB x.f0)).length:Int):=by
 show passN (rows.take f) 0=_;(rw[passN_count];omega)
theorem ctR_eq {rows:List RowH} {f i:Nat} (h:i < (rd_T57 rows 0).f0.size):(ctR rows f).getD i 0=(((rows.take f).filter (fun x=>ofB (i:Int) x.f0)).length:Int):=by
 rw[passR_count _ _ (by rw[List.length_replicate];exact h),List.getD_eq_getElem?_getD,List.getElem?_replicate,if_pos h];simp
theorem cut_split {rows:List RowH} {f t:Nat} (h:f≤t):rows.take t=rows.take f ++ cutR rows f t:=by
 have:=(List.take_append_drop f (rows.take t)).symm
 rwa [List.take_take,Nat.min_eq_left h] at this
theorem filter_len_cut {rows:List RowH} {f t:Nat} (h:f≤t) (p:RowH→Bool):((rows.take f).filter p).length+((cutR rows f t).filter p).length=((rows.take t).filter p).length:=by
 rw[cut_split h,List.filter_append,List.length_append]
theorem spansH_take {rows:List RowH} {f t i:Nat} (hi:i < (rd_T57 rows 0).f0.size):(spansH (ctR rows f) (ctR rows t)).take (i+1)=(spansH (ctR rows f) (ctR rows t)).take i ++ [⟨(ctR rows f).getD i 0,(ctR rows t).getD i 0⟩]:=by
 (have h1:i < (ctR rows f).length:=by rw[ctR_len];exact hi);(have h2:i < (ctR rows t).length:=by rw[ctR_len];exact hi);(have hl:i < (spansH (ctR rows f) (ctR rows t)).length:=by rw[spansH,List.length_zipWith];omega);rw[← List.take_append_getElem hl]
 congr 1
 simp only[spansH,List.getElem_zipWith];rw[getD_get h1,getD_get h2]
theorem ref_Hunk21 {rows:List RowH} (hz:Low rows) (hl:rows.length≤100000) (hn:(rd_T57 rows 0).f0.size≤1000000) {f t:Nat} (hft:f≤t) (ht:t≤rows.length) (hpos:0 < rows.length):Gives (fun k=>sennitref21_Hunk.f k rows (f:Int) (t:Int)) ((hunkOf rows f t).f0,(hunkOf rows f t).f1.f0,(hunkOf rows f t).f1.f1,(hunkOf rows f t).f2):=by
 (have hz2 : ∀ x ∈ rows,x.f0.size≤1000000000:=fun x hx=>by have:=hz x hx;omega);(have hzt : ∀ q,∀ x ∈ rows.take q,x.f0.size≤1000000000:=fun q x hx=>hz2 x (List.mem_of_mem_take hx));(have hzc : ∀ x ∈ cutR rows f t,x.f0.size≤1000000000:=fun x hx=>hz2 x (cutR_mem hx));(have hlt : ∀ q,(rows.take q).length≤100000:=fun q=>by rw[List.length_take];omega);(have hlc:(cutR rows f t).length≤100000:=by rw[cutR_len ht];omega);obtain⟨n,hn0⟩ : ∃ n,(rd_T57 rows 0).f0.size=n:=⟨_,rfl⟩
 have hloop : ∀ (r i:Nat),i+r=n→Gives (fun k=>sennitref21_Hunk.l0 k rows (f:Int) (t:Int) (i:Int) ((spansH (ctR rows f) (ctR rows t)).take i) (ctN rows f) (ctN rows t) (cutR rows f t)) (spansH (ctR rows f) (ctR rows t),ctN rows f,ctN rows t,cutR rows f t):=by
  intro r
  induction r with
  | zero =>
   intro i hi;have e:(spansH (ctR rows f) (ctR rows t)).take i=spansH (ctR rows f) (ctR rows t):=List.take_of_length_le (by rw[spansH,List.length_zipWith,ctR_len,ctR_len];omega);rw[e];(refine Gives.of fun k=>?_);show sennitref21_Hunk.l0 (k+1) rows (f:Int) (t:Int) (i:Int) _ _ _ _=_;rw[sennitref21_Hunk.l0,if_pos (by omega),if_neg (by omega)]
  | succ r ih =>
   intro i hi;have h1:=ref_Column20 (R:=rows.take f) (i:Int) (hlt f) (hzt f);have h2:=ref_Column20 (R:=cutR rows f t) (i:Int) hlc hzc;(have hlen:((spansH (ctR rows f) (ctR rows t)).take i).length≤i:=by rw[List.length_take];omega);(have e1:(((((rows.take f).filter (fun x=>ofB (i:Int) x.f0)).map (·.f1)).length:Nat):Int)=(ctR rows f).getD i 0:=by rw[List.length_map,ctR_eq (by omega)]);have hfl:((rows.take f).filter (fun x=>ofB (i:Int) x.f0)).length+((cutR rows f t).filter (fun x=>ofB (i:Int) x.f0)).length=((rows.take t).filter (fun x=>ofB (i:Int) x.f0)).length:=filter_len_cut hft (rows:=rows) (fun x=>ofB (i:Int) x.f0);have hb:((rows.take t).filter (fun x=>ofB (i:Int) x.f0)).length≤(rows.take t).length:=List.length_filter_le _ _;have hb2:=hlt t
   have e2:wrap64 (((((rows.take f).filter (fun x=>ofB (i:Int) x.f0)).map (·.f1)).length:Int)+((((cutR rows f t).filter (fun x=>ofB (i:Int) x.f0)).map (·.f1)).length:Int))=(ctR rows t).getD i 0:=by
    (rw[ctR_eq (by omega),List.length_map,List.length_map,gw (by omega) (by omega)];omega)
   have hnx:=ih (i+1) (by omega);(rw[spansH_take (by omega)] at hnx);obtain⟨K1,k1⟩:=h1;obtain⟨K2,k2⟩:=h2;obtain⟨K3,k3⟩:=hnx;(dsimp only at k1 k2 k3);(refine Gives.of' (K1+K2+K3) fun k hk=>?_);show sennitref21_Hunk.l0 (k+1) rows (f:Int) (t:Int) (i:Int) _ _ _ _=_;rw[sennitref21_Hunk.l0,if_pos (by omega),if_pos (by omega),if_pos (by omega),if_pos (by omega),Int.toNat_natCast,Int.toNat_natCast,k1 k (by omega),Option.bind_some,if_pos (by omega),if_pos (by omega)];rw[show (rows.take t).drop f=cutR rows f t from rfl,k2 k (by omega),Option.bind_some,if_pos (by omega),e2,e1,gw1 (by omega)];exact k3 k (by omega)
 have hr1:=ref_Result20 (R:=rows.take f) (hlt f) (hzt f);have hr2:=ref_Result20 (R:=cutR rows f t) hlc hzc;have hl0:=hloop n 0 (by omega);(have e1:(((((rows.take f).filter (fun x => !lostB x.f0)).map (·.f1)).length:Nat):Int)=ctN rows f:=by rw[List.length_map,ctN_eq]);have hfl:((rows.take f).filter (fun x => !lostB x.f0)).length+((cutR rows f t).filter (fun x => !lostB x.f0)).length=((rows.take t).filter (fun x => !lostB x.f0)).length:=filter_len_cut hft (rows:=rows) (fun x => !lostB x.f0);have hb:((rows.take t).filter (fun x => !lostB x.f0)).length≤(rows.take t).length:=List.length_filter_le _ _;have hb2:=hlt t
 have e2:wrap64 (((((rows.take f).filter (fun x => !lostB x.f0)).map (·.f1)).length:Int)+((((cutR rows f t).filter (fun x => !lostB x.f0)).map (·.f1)).length:Int))=ctN rows t:=by
  (rw[ctN_eq,List.length_map,List.length_map,gw (by omega) (by omega)];omega)
 obtain⟨K1,k1⟩:=hr1;obtain⟨K2,k2⟩:=hr2;obtain⟨K3,k3⟩:=hl0;(dsimp only at k1 k2 k3);refine⟨K1+K2+K3,fun k hk=>?_⟩;show sennitref21_Hunk.f k rows (f:Int) (t:Int)=_;rw[sennitref21_Hunk.f,if_pos (by omega),if_pos (by omega),if_pos (by omega),if_pos (by omega),Int.toNat_natCast,Int.toNat_natCast,k1 k (by omega),Option.bind_some];rw[show (rows.take t).drop f=cutR rows f t from rfl,k2 k (by omega),Option.bind_some,e2,e1];exact k3 k (by omega)
theorem cutsGo_fuel (rows:List RowH) (sh:List Bool) : ∀ (r r' i:Nat),sh.length < r+i→sh.length < r'+i→cutsGo rows sh r i=cutsGo rows sh r' i:=by
 intro r
 induction r with
 | zero=>intro r' i h h';rw[cutsGo_end rows (by omega),cutsGo_end rows (by omega)]
 | succ r ih =>
  intro r' i h h'
  by_cases hi:i < sh.length
  ·
   obtain⟨r',rfl⟩ : ∃ q,r'=q+1:=⟨r' - 1,by omega⟩
   cases hm:sh[i] with
   | true =>
    have h1:=HkP.groupEnd_spec id sh (i+1) (by omega);rw[cutsGo_hit rows hi hm,cutsGo_hit rows hi hm,HkP.groupEnd_step id hi hm,ih r' _ (by omega) (by omega)]
   | false=>rw[cutsGo_miss rows hi hm,cutsGo_miss rows hi hm,ih r' _ (by omega) (by omega)]
  (· rw[cutsGo_end rows hi,cutsGo_end rows hi])
theorem ref_Hunks21 {rows:List RowH} (hlow:lowB rows=true) (hl5:rows.length≤100000) (x:Int) (dense:Bool):Gives (fun k=>sennitref21_Hunks.f k rows x dense) (hunksC rows x dense):=by
 obtain⟨hl,hz,ht⟩:=lowB_iff hlow;rw[hunksC]
 have hj : ∀ q,(q=true∨(¬ x < 0 ∧ ¬ 1000 < x))→Gives (fun k=>sennitref21_Hunks.j0 k rows x dense q) (if q=true then (([]:List Hunk48),(1:Int)) else if mayB rows=false then ([],2) else (cutsH rows (shownC rows x.toNat dense),0)):=by
  intro q hq
  cases q with
  | true =>
   rw[if_pos rfl];(refine Gives.of fun k=>?_);show sennitref21_Hunks.j0 (k+1) rows x dense true=_;rw[sennitref21_Hunks.j0,if_pos rfl]
  | false =>
   rw[if_neg (by decide)]
   have hx : ¬ x < 0 ∧ ¬ 1000 < x:=by
    rcases hq with h|h
    (· cases h);(· exact h)
   have hm:=ref_MayH hz ht hl
   cases hmb:mayB rows with
   | false =>
    (rw[hmb] at hm);rw[if_pos rfl];(refine Gives.last hm fun k hk=>?_);show sennitref21_Hunks.j0 (k+1) rows x dense false=_;rw[sennitref21_Hunks.j0,if_neg (by decide),hk,Option.bind_some,if_neg (by decide)]
   | true =>
    (rw[hmb] at hm);rw[if_neg (by decide)];obtain⟨hg,hsz⟩:=mayB_good hmb;obtain⟨xn,rfl⟩ : ∃ xn:Nat,x=(xn:Int):=⟨x.toNat,by omega⟩;rw[Int.toNat_natCast];obtain⟨sh,hsh⟩ : ∃ sh,shownC rows xn dense=sh:=⟨_,rfl⟩;(have hshl:sh.length=rows.length:=by rw[← hsh,shownC_len])
    have hsa : ∀ i (hi:i < rows.length),HkP.shownR mrkB (keepB rows dense) rows xn i=sh[i]'(by omega):=fun i hi=>by
     rw[← shownC_at (x:=xn) (dense:=dense) hi,List.getD_eq_getElem?_getD];simp only[hsh];rw[List.getElem?_eq_getElem (by omega),Option.getD_some]
    rw[hsh]
    have hloop : ∀ (r i:Nat) (out:List Hunk48),rows.length < r+i→out.length≤i→Gives (fun k=>sennitref21_Hunks.l0 k rows (xn:Int) dense out (i:Int)) (out ++ cutsGo rows sh r i,0):=by
     intro r
     induction r with
     | zero =>
      intro i out hr ho;rw[cutsGo_end rows (by omega),List.append_nil];(refine Gives.of fun k=>?_);show sennitref21_Hunks.l0 (k+1) rows (xn:Int) dense out (i:Int)=_;rw[sennitref21_Hunks.l0,if_neg (by omega)]
     | succ r ih =>
      intro i out hr ho
      by_cases hi:i < rows.length
      ·
       obtain⟨T,hT⟩ : ∃ T,HkP.groupEnd id sh i=T:=⟨_,rfl⟩;have hsp:=HkP.groupEnd_spec id sh i (by omega);(rw[hT,hshl] at hsp);obtain⟨hiT,hTn,hin,hend⟩:=hsp
       have hfin:Gives (fun k=>sennitref21_Hunks.l1 k rows (xn:Int) dense out (i:Int) (T:Int)) (out ++ cutsGo rows sh (r+1) i,0):=by
        have hTs:T < rows.length→Gives (fun k=>sennitref21_shown.f k rows (T:Int) (xn:Int) dense) false:=fun h=>by
         have:=ref_shown hg (by
          by_cases hn:rows=[]
          (· (rw[hn] at h;exact absurd h (by simp)))
          ·
           have:=hsz hn;omega) hz hl dense xn (by omega) h
         (rw[hsa T h] at this)
         have e:sh[T]'(by omega)=false:=by
          cases e:sh[T]'(by omega) with
          | false=>rfl
          | true=>exact(hend ⟨by omega,e⟩).elim
         rwa [e] at this
        by_cases hTi:i < T
        ·
         have him:sh[i]'(by omega)=true:=(hin i (Nat.le_refl _) hTi).2;have hh:=ref_Hunk21 hz hl5 (by have:=hsz (by intro e;rw[e] at hi;exact absurd hi (by simp));omega) hiT hTn (by omega)
         have hcut:cutsGo rows sh (r+1) i=hunkOf rows i T :: cutsGo rows sh r (T+1):=by
          rw[cutsGo_hit rows (by omega) him,hT]
          congr 1
          by_cases hTl:T < sh.length
          ·
           have e:sh[T]=false:=by
            cases e:sh[T] with
            | false=>rfl
            | true=>exact(hend ⟨hTl,e⟩).elim
           rw[cutsGo_fuel rows sh r (r+1) T (by omega) (by omega),cutsGo_miss rows hTl e]
          (· rw[cutsGo_end rows hTl,cutsGo_end rows (by omega)])
         have hnx:=ih (T+1) (out ++ [hunkOf rows i T]) (by omega) (by rw[List.length_append,List.length_singleton];omega);rw[hcut];(rw[List.append_assoc] at hnx);obtain⟨K1,k1⟩:=hh;obtain⟨K2,k2⟩:=hnx;(dsimp only at k1 k2)
         by_cases hTl:T < rows.length
         (· obtain⟨K3,k3⟩:=hTs hTl;(dsimp only at k3);(refine Gives.of' (K1+K2+K3) fun k hk=>?_);show sennitref21_Hunks.l1 (k+1) rows (xn:Int) dense out (i:Int) (T:Int)=_;rw[sennitref21_Hunks.l1,if_pos (by omega),k3 k (by omega),Option.bind_some,if_neg (by decide),if_pos (by omega),k1 k (by omega),Option.bind_some,if_pos (by omega),gw1 (by omega)];exact k2 k (by omega));(· (refine Gives.of' (K1+K2) fun k hk=>?_);show sennitref21_Hunks.l1 (k+1) rows (xn:Int) dense out (i:Int) (T:Int)=_;rw[sennitref21_Hunks.l1,if_neg (by omega),if_pos (by omega),k1 k (by omega),Option.bind_some,if_pos (by omega),gw1 (by omega)];exact k2 k (by omega))
        ·
         (obtain rfl:T=i:=by omega)
         have e:sh[T]'(by omega)=false:=by
          cases e:sh[T]'(by omega) with
          | false=>rfl
          | true=>exact(hend ⟨by omega,e⟩).elim
         rw[cutsGo_miss rows (by omega) e];have hnx:=ih (T+1) out (by omega) (by omega);(refine Gives.call (hTs hi) hnx fun k hk=>?_);show sennitref21_Hunks.l1 (k+1) rows (xn:Int) dense out (T:Int) (T:Int)=_;rw[sennitref21_Hunks.l1,if_pos (by omega),hk,Option.bind_some,if_neg (by decide),if_neg (by omega),gw1 (by omega)]
       have hrun : ∀ (m j:Nat),j+m=T→i≤j→Gives (fun k=>sennitref21_Hunks.l1 k rows (xn:Int) dense out (i:Int) (j:Int)) (out ++ cutsGo rows sh (r+1) i,0):=by
        intro m
        induction m with
        | zero =>
         intro j hj _;(obtain rfl:j=T:=by omega);exact hfin
        | succ m ihm =>
         intro j hj hij;(have hjn:j < rows.length:=by omega);have hs:=ref_shown hg (by have:=hsz (by intro e;rw[e] at hi;exact absurd hi (by simp));omega) hz hl dense xn (by omega) hjn;(rw[hsa j hjn,show sh[j]'(by omega)=true from (hin j hij (by omega)).2] at hs);(refine Gives.call hs (ihm (j+1) (by omega) (by omega)) fun k hk=>?_);show sennitref21_Hunks.l1 (k+1) rows (xn:Int) dense out (i:Int) (j:Int)=_;rw[sennitref21_Hunks.l1,if_pos (by omega),hk,Option.bind_some,if_pos rfl,gw1 (by omega)]
       (refine(hrun (T - i) i (by omega) (Nat.le_refl _)).step fun k=>?_);show sennitref21_Hunks.l0 (k+1) rows (xn:Int) dense out (i:Int)=_;rw[sennitref21_Hunks.l0,if_pos (by omega)]
      (· rw[cutsGo_end rows (by omega),List.append_nil];(refine Gives.of fun k=>?_);show sennitref21_Hunks.l0 (k+1) rows (xn:Int) dense out (i:Int)=_;rw[sennitref21_Hunks.l0,if_neg (by omega)])
    have h0:=hloop (rows.length+1) 0 [] (by omega) (Nat.le_refl _);(rw[List.nil_append] at h0);(have e:cutsH rows sh=cutsGo rows sh (rows.length+1) 0:=by rw[cutsH,hshl];rfl);rw[e];(refine Gives.call hm h0 fun k hk=>?_);show sennitref21_Hunks.j0 (k+1) rows (xn:Int) dense false=_;(rw[sennitref21_Hunks.j0,if_neg (by decide),hk,Option.bind_some,if_pos rfl];rfl)
 by_cases h0:x < 0
 (· (refine((hj true (.inl rfl)).eq (by rw[if_pos rfl,if_pos (.inl h0)])).same fun k=>?_);show sennitref21_Hunks.f k rows x dense=_;rw[sennitref21_Hunks.f,if_pos h0])
 ·
  by_cases h1:1000 < x
  (· (refine((hj true (.inl rfl)).eq (by rw[if_pos rfl,if_pos (.inr h1)])).same fun k=>?_);show sennitref21_Hunks.f k rows x dense=_;rw[sennitref21_Hunks.f,if_neg h0,decide_eq_true (show x > 1000 from h1)]);(· (refine((hj false (.inr ⟨h0,h1⟩)).eq (by rw[if_neg (by decide),if_neg (show ¬ (x < 0∨1000 < x) by omega)])).same fun k=>?_);show sennitref21_Hunks.f k rows x dense=_;rw[sennitref21_Hunks.f,if_neg h0,decide_eq_false (show ¬ x > 1000 by omega)])
end Go.Proofs.YthcnfflhejogfaaDoor.X
namespace Go.Proofs.YthcnfflhejogfaaDoor.X.T20
open Go.RowKit YthcnfflhejogfaaDoorW.PrintWords YthcnfflhejogfaaDoorW.PrintLast YthcnfflhejogfaaDoorW.PrintMore
section InternMath_sec
def place (s:ByteArray):List ByteArray→Nat
  | []=>0
  | x :: xs=>if x=s then 0 else place s xs+1
def addT (t:List ByteArray) (s:ByteArray):List ByteArray:=if place s t < t.length then t else t ++ [s]
theorem place_le (s:ByteArray) : ∀ t,place s t≤t.length
 | []=>Nat.le_refl _
 | x :: xs=>by
  have:=place_le s xs;simp only[place,List.length_cons];(split <;> omega)
theorem place_get (s:ByteArray) : ∀ {t:List ByteArray} (h:place s t < t.length),t[place s t]=s
 | [],h=>by simp[place] at h
 | x :: xs,h=>by
  by_cases e:x=s
  (· simp[place,e]);(· (have h':place s xs < xs.length:=by simpa [place,e] using h);simp only[place,e,if_false,List.getElem_cons_succ];exact place_get s h')
theorem place_mem (s:ByteArray) : ∀ {t:List ByteArray},s ∈ t↔place s t < t.length
 | []=>by simp[place]
 | x :: xs=>by
  by_cases e:x=s
  (· simp[place,e]);(· (have e' : ¬ s=x:=fun h=>e h.symm);simp[place,e,e',place_mem s (t:=xs)])
theorem place_append (s:ByteArray) : ∀ {t:List ByteArray} (u:List ByteArray),place s t < t.length→place s (t ++ u)=place s t
 | [],u,h=>by simp[place] at h
 | x :: xs,u,h=>by
  by_cases e:x=s
  (· simp[place,e]);(· (have h':place s xs < xs.length:=by simpa [place,e] using h);simp[place,e,place_append s u h'])
theorem place_new (s:ByteArray) : ∀ {t:List ByteArray} (u:List ByteArray),¬ place s t < t.length→place s (t ++ s :: u)=t.length
 | [],u,h=>by simp[place]
 | x :: xs,u,h=>by
  by_cases e:x=s
  (· (simp[place,e] at h));(· (have h' : ¬ place s xs < xs.length:=by simpa [place,e] using h);simp[place,e,place_new s u h'])
theorem place_not {s:ByteArray} {t:List ByteArray} (h : ¬ place s t < t.length):place s t=t.length:=by
 (have:=place_le s t;omega)
theorem addT_length (t:List ByteArray) (s:ByteArray):t.length≤(addT t s).length∧(addT t s).length≤t.length+1:=by
 (unfold addT;split <;> simp)
def idsOne:List ByteArray→List ByteArray→List ByteArray × List Int
  | t,[]=>(t,[])
  | t,s :: l=>((idsOne (addT t s) l).1,(place s t:Int) :: (idsOne (addT t s) l).2)
def idsMany:List ByteArray→List (List ByteArray)→List (List Int)
  | _,[]=>[]
  | t,l :: ls=>(idsOne t l).2 :: idsMany (idsOne t l).1 ls
def idsAll (files:List (List ByteArray)):List (List Int):=idsMany [] files
theorem idsOne_length : ∀ (t l:List ByteArray),(idsOne t l).2.length=l.length
 | t,[]=>rfl
 | t,s :: l=>by simp[idsOne,idsOne_length (addT t s) l]
theorem idsOne_snoc : ∀ (t l:List ByteArray) (s:ByteArray),idsOne t (l ++ [s])=(addT (idsOne t l).1 s,(idsOne t l).2 ++ [(place s (idsOne t l).1:Int)])
 | t,[],s=>by simp[idsOne]
 | t,x :: l,s=>by simp[idsOne,idsOne_snoc (addT t x) l s]
theorem idsOne_table_le : ∀ (t l:List ByteArray),(idsOne t l).1.length≤t.length+l.length
 | t,[]=>by simp[idsOne]
 | t,s :: l=>by
  have h1:=idsOne_table_le (addT t s) l;have h2:=(addT_length t s).2;(simp only[idsOne,List.length_cons];omega)
theorem idsMany_length : ∀ (t:List ByteArray) (ls:List (List ByteArray)),(idsMany t ls).length=ls.length
 | _,[]=>rfl
 | t,l :: ls=>by simp[idsMany,idsMany_length (idsOne t l).1 ls]
def tabOf:List ByteArray→List (List ByteArray)→List ByteArray
  | t,[]=>t
  | t,l :: ls=>tabOf (idsOne t l).1 ls
theorem tabOf_snoc : ∀ (t:List ByteArray) (ls:List (List ByteArray)) (l:List ByteArray),tabOf t (ls ++ [l])=(idsOne (tabOf t ls) l).1
 | t,[],l=>rfl
 | t,x :: ls,l=>tabOf_snoc (idsOne t x).1 ls l
theorem idsMany_snoc : ∀ (t:List ByteArray) (ls:List (List ByteArray)) (l:List ByteArray),idsMany t (ls ++ [l])=idsMany t ls ++ [(idsOne (tabOf t ls) l).2]
 | t,[],l=>rfl
 | t,x :: ls,l=>by simp[idsMany,tabOf,idsMany_snoc (idsOne t x).1 ls l]
end InternMath_sec
section LcsMath_sec
def lcsL:List Int→List Int→Nat
  | [],_=>0
  | _ :: _,[]=>0
  | x :: xs,y :: ys=>if x=y then lcsL xs ys+1 else max (lcsL xs (y :: ys)) (lcsL (x :: xs) ys)
  termination_by a b=>a.length+b.length
@[simp] theorem lcsL_nil_left (b:List Int):lcsL [] b=0:=by unfold lcsL;rfl
@[simp] theorem lcsL_nil_right (a:List Int):lcsL a []=0:=by cases a <;> (unfold lcsL;rfl)
theorem lcsL_cons (x y:Int) (xs ys:List Int):lcsL (x :: xs) (y :: ys)=if x=y then lcsL xs ys+1 else max (lcsL xs (y :: ys)) (lcsL (x :: xs) ys):=by
 rw[lcsL]
def matchFrom:List Int→List Int→Nat→List Int
  | [],_,_=>[]
  | _ :: xs,[],j => -1 :: matchFrom xs [] j
  | x :: xs,y :: ys,j=>if x=y then (j:Int) :: matchFrom xs ys (j+1) else if lcsL (x :: xs) ys≤lcsL xs (y :: ys) then -1 :: matchFrom xs (y :: ys) j else matchFrom (x :: xs) ys (j+1)
  termination_by a b _=>a.length+b.length
def matchOf (a b:List Int):List Int:=matchFrom a b 0
theorem lcsL_le (a b s:List Int):s.Sublist a→s.Sublist b→s.length≤lcsL a b:=by
 match a,b with
 | [],b=>intro h _;simp at h;simp[h]
 | x :: xs,[]=>intro _ h;simp at h;simp[h]
 | x :: xs,y :: ys =>
  intro h h';rw[lcsL_cons]
  by_cases e:x=y
  ·
   subst e;rw[if_pos rfl]
   cases s with
   | nil=>simp
   | cons z zs =>
    have h1:zs.Sublist xs:=by
     cases h with
     | cons _ h=>exact(List.sublist_cons_self z zs).trans h
     | cons_cons _ h=>exact h
    have h2:zs.Sublist ys:=by
     cases h' with
     | cons _ h=>exact(List.sublist_cons_self z zs).trans h
     | cons_cons _ h=>exact h
    have:=lcsL_le xs ys zs h1 h2;(simp;omega)
  ·
   rw[if_neg e]
   cases h with
   | cons _ h=>have:=lcsL_le xs (y :: ys) s h h';omega
   | cons_cons _ h =>
    cases h' with
    | cons _ h'=>have:=lcsL_le (x :: xs) ys _ (h.cons_cons x) h';omega
    | cons_cons _ h'=>exact absurd rfl e
 termination_by a.length+b.length
theorem lcsL_ex (a b:List Int) : ∃ s:List Int,s.Sublist a∧s.Sublist b∧s.length=lcsL a b:=by
 match a,b with
 | [],b=>exact⟨[],by simp,by simp,by simp⟩
 | x :: xs,[]=>exact⟨[],by simp,by simp,by simp⟩
 | x :: xs,y :: ys =>
  rw[lcsL_cons]
  by_cases e:x=y
  (· subst e;rw[if_pos rfl];obtain⟨s,h1,h2,h3⟩:=lcsL_ex xs ys;exact⟨x :: s,h1.cons_cons x,h2.cons_cons x,by simp[h3]⟩)
  ·
   rw[if_neg e];obtain⟨s,h1,h2,h3⟩:=lcsL_ex xs (y :: ys);obtain⟨s',h1',h2',h3'⟩:=lcsL_ex (x :: xs) ys
   rcases Nat.le_total (lcsL (x :: xs) ys) (lcsL xs (y :: ys)) with h|h
   (· exact⟨s,h1.cons x,h2,by omega⟩);(· exact⟨s',h1',h2'.cons y,by omega⟩)
 termination_by a.length+b.length
theorem lcsL_unique {a b:List Int} {n:Nat} (h1 : ∀ s:List Int,s.Sublist a→s.Sublist b→s.length≤n) (h2 : ∃ s:List Int,s.Sublist a∧s.Sublist b∧s.length=n):lcsL a b=n:=by
 obtain⟨s,h3,h4,h5⟩:=lcsL_ex a b;obtain⟨t,h6,h7,h8⟩:=h2;have:=h1 s h3 h4;have:=lcsL_le a b t h6 h7;omega
theorem lcsL_comm (a b:List Int):lcsL a b=lcsL b a :=
  lcsL_unique (fun s h h'=>lcsL_le b a s h' h) (let ⟨s,h1,h2,h3⟩:=lcsL_ex b a;⟨s,h2,h1,h3⟩)
theorem lcsL_le_left (a b:List Int):lcsL a b≤a.length:=let ⟨_,h1,_,h3⟩:=lcsL_ex a b;h3 ▸ h1.length_le
theorem lcsL_step_left (x:Int) (a b:List Int):lcsL (x :: a) b≤lcsL a b+1:=by
 obtain⟨s,h1,h2,h3⟩:=lcsL_ex (x :: a) b
 cases h1 with
 | cons _ h=>have:=lcsL_le a b s h h2;omega
 | @cons_cons s' _ _ h =>
  have:=lcsL_le a b s' h ((List.sublist_cons_self x s').trans h2);(simp at h3);omega
theorem lcsL_step_right (y:Int) (a b:List Int):lcsL a (y :: b)≤lcsL a b+1:=by
 (rw[lcsL_comm,lcsL_comm a b];exact lcsL_step_left y b a)
theorem matchFrom_nil (b:List Int) (j:Nat):matchFrom [] b j=[]:=by unfold matchFrom;rfl
theorem matchFrom_none (x:Int) (xs:List Int) (j:Nat):matchFrom (x :: xs) [] j = -1 :: matchFrom xs [] j:=by rw[matchFrom]
theorem matchFrom_cons (x y:Int) (xs ys:List Int) (j:Nat):matchFrom (x :: xs) (y :: ys) j=if x=y then (j:Int) :: matchFrom xs ys (j+1) else if lcsL (x :: xs) ys≤lcsL xs (y :: ys) then -1 :: matchFrom xs (y :: ys) j else matchFrom (x :: xs) ys (j+1):=by rw[matchFrom]
theorem matchFrom_rest (a:List Int) (j:Nat):matchFrom a [] j=List.replicate a.length (-1):=by
 induction a with
 | nil=>rw[matchFrom_nil];rfl
 | cons x a ih=>rw[matchFrom_none,ih];rfl
theorem matchFrom_length (a b:List Int) (j:Nat):(matchFrom a b j).length=a.length:=by
 match a,b with
 | [],b=>simp[matchFrom_nil]
 | x :: xs,[]=>simp[matchFrom_rest]
 | x :: xs,y :: ys =>
  rw[matchFrom_cons];split;(· simp[matchFrom_length xs ys])
  ·
   split;(· simp[matchFrom_length xs (y :: ys)]);(· exact matchFrom_length (x :: xs) ys _)
 termination_by a.length+b.length
def Rises (a b:List Int) (j:Nat):List Int→Nat→Prop
  | [],n=>n=0∧True
  | m :: ms,n=>(m = -1∧Rises a.tail b j ms n)∨(∃ k n',m=((j+k:Nat):Int)∧n=n'+1∧b[k]? = a.head? ∧ a≠[]∧Rises a.tail (b.drop (k+1)) (j+k+1) ms n')
theorem rises_shift {a b:List Int} {j:Nat} {y:Int} : ∀ {ms:List Int} {n:Nat},ms.length=a.length→Rises a b (j+1) ms n→Rises a (y :: b) j ms n:=by
 intro ms
 induction ms generalizing a with
 | nil=>intro n _ h;exact h
 | cons m ms ih =>
  intro n hl h
  rcases h with ⟨h1,h2⟩|⟨k,n',h1,h2,h3,h4,h5⟩
  (· exact .inl ⟨h1,ih (by simp at hl ⊢;omega) h2⟩);(· exact .inr ⟨k+1,n',by rw[h1];congr 1;omega,h2,by simpa using h3,h4,by rw[show j+(k+1)+1=j+1+k+1 from by omega];simpa using h5⟩)
theorem matchFrom_rises (a b:List Int) (j:Nat):Rises a b j (matchFrom a b j) (lcsL a b):=by
 match a,b with
 | [],b=>rw[matchFrom_nil,lcsL_nil_left];exact⟨rfl,trivial⟩
 | x :: xs,[] =>
  rw[matchFrom_none,lcsL_nil_right];have:=matchFrom_rises xs [] j;(rw[lcsL_nil_right] at this);exact .inl ⟨rfl,this⟩
 | x :: xs,y :: ys =>
  rw[matchFrom_cons,lcsL_cons]
  by_cases e:x=y
  (· subst e;rw[if_pos rfl,if_pos rfl];exact .inr ⟨0,lcsL xs ys,by simp,rfl,by simp,by simp,by simpa using matchFrom_rises xs ys (j+1)⟩)
  ·
   rw[if_neg e,if_neg e]
   by_cases h:lcsL (x :: xs) ys≤lcsL xs (y :: ys)
   (· rw[if_pos h,Nat.max_eq_left h];exact .inl ⟨rfl,matchFrom_rises xs (y :: ys) j⟩);(· rw[if_neg h,Nat.max_eq_right (by omega)];exact rises_shift (matchFrom_length _ _ _) (matchFrom_rises (x :: xs) ys (j+1)))
 termination_by a.length+b.length
end LcsMath_sec
section Lcs4_sec
open Go.RowKit Go.Proofs.YthcnfflhejogfaaDoorW.PrintWords Go.Proofs.YthcnfflhejogfaaDoorW.PrintLast Go.Proofs.YthcnfflhejogfaaDoorW.PrintMore
section
variable {w W:World} {g g3 g0 g1 gs:Nat} {sa sb x2 x3 x4:Value} {nm m:Nat} {L0 L1 S:List Int}
end
theorem place_div {m i j:Nat} (hj:j < m):(i * m+j) / m=i∧(i * m+j) % m=j:=by
 constructor;(· rw[Nat.mul_comm,Nat.mul_add_div (by omega),Nat.div_eq_of_lt hj,Nat.add_zero]);(· rw[Nat.mul_comm,Nat.mul_add_mod,Nat.mod_eq_of_lt hj])
theorem place_lt {n m i j:Nat} (hi:i < n) (hj:j < m):i * m+j < n * m:=by
 have:(i+1) * m≤n * m:=Nat.mul_le_mul_right _ hi;(rw[Nat.succ_mul] at this);omega
theorem drop_cons' {l:List Int} {i:Nat} {x:Int} (h:l[i]? = some x):l.drop i=x :: l.drop (i+1):=by
 obtain⟨hl,rfl⟩:=List.getElem?_eq_some_iff.1 h;exact List.drop_eq_getElem_cons hl
section
variable {a b L0 L1 S:List Int} {i j:Nat} {x y:Int}
theorem lcs_eq (hx:a[i]? = some x) (hy:b[j]? = some y) (e:x=y):lcsL (a.drop i) (b.drop j)=lcsL (a.drop (i+1)) (b.drop (j+1))+1:=by
 rw[drop_cons' hx,drop_cons' hy,lcsL_cons,if_pos e]
theorem lcs_ne (hx:a[i]? = some x) (hy:b[j]? = some y) (e : ¬ x=y):lcsL (a.drop i) (b.drop j)=max (lcsL (a.drop (i+1)) (b.drop j)) (lcsL (a.drop i) (b.drop (j+1))):=by
 rw[drop_cons' hx,drop_cons' hy,lcsL_cons,if_neg e]
end
end Lcs4_sec
section Gap1_sec
open Go.RowKit Go.Proofs.YthcnfflhejogfaaDoorW.PrintWords Go.Proofs.YthcnfflhejogfaaDoorW.PrintLast Go.Proofs.YthcnfflhejogfaaDoorW.PrintMore
abbrev RowG:=List Int × ByteArray
end Gap1_sec
section Gap2_sec
open Go.RowKit Go.Proofs.YthcnfflhejogfaaDoorW.PrintWords Go.Proofs.YthcnfflhejogfaaDoorW.PrintLast Go.Proofs.YthcnfflhejogfaaDoorW.PrintMore
def noMarks:List Int:=List.replicate 16 0
def oneRow (col:Nat) (s:ByteArray):RowG:=(noMarks.set col 1,s)
end Gap2_sec
section GapMath_sec
def Up (hi:Nat):Nat→List Int→Prop
  | lo,[]=>lo≤hi
  | lo,m :: ms=>(m = -1∧Up hi lo ms)∨(∃ k:Nat,m=(k:Int)∧lo≤k∧k < hi∧Up hi (k+1) ms)
theorem Up.le {hi:Nat} : ∀ {ms:List Int} {lo:Nat},Up hi lo ms→lo≤hi
 | [],lo,h=>h
 | m :: ms,lo,h=>by
  rcases h with ⟨_,h⟩|⟨k,_,h1,h2,_⟩
  (· exact Up.le h);(· omega)
theorem up_of_rises {a b:List Int} : ∀ {ms:List Int} {a b:List Int} {j n:Nat},Rises a b j ms n→Up (j+b.length) j ms
 | [],a,b,j,n,h=>by simp[Up]
 | m :: ms,a,b,j,n,h=>by
  rcases h with ⟨h1,h2⟩|⟨k,n',h1,_,h3,h4,h5⟩
  (· exact .inl ⟨h1,up_of_rises (a:=[]) (b:=[]) h2⟩)
  ·
   have hk:k < b.length:=by
    rcases Nat.lt_or_ge k b.length with h|h
    (· exact h)
    ·
     (rw[List.getElem?_eq_none h] at h3)
     cases a with
     | nil=>exact absurd rfl h4
     | cons x xs=>cases h3
   have:=up_of_rises (a:=[]) (b:=[]) h5;(rw[List.length_drop] at this);refine .inr ⟨j+k,h1,by omega,by omega,?_⟩
   rwa [show j+k+1+(b.length - (k+1))=j+b.length by omega] at this
theorem match_up (a b:List Int):Up b.length 0 (matchOf a b):=by
 have:=up_of_rises (a:=[]) (b:=[]) (matchFrom_rises a b 0)
 rwa [Nat.zero_add] at this
def comeGo (col:Nat) (list:List ByteArray):List Int→List RowG→Nat→List RowG
  | m :: ms,x :: rs,at_=>if 0≤m then ((list.take m.toNat).drop at_).map (oneRow col) ++ (x.1.set col 1,x.2) :: comeGo col list ms rs (m.toNat+1) else x :: comeGo col list ms rs at_
  | _,_,at_=>(list.drop at_).map (oneRow col)
def idsOf2 (rs:List RowG) (list:List ByteArray):List (List Int):=idsAll [rs.map (·.2),list]
def matchG (rs:List RowG) (list:List ByteArray):List Int:=matchOf ((idsOf2 rs list).getD 0 []) ((idsOf2 rs list).getD 1 [])
def comeF (col:Nat) (list:List ByteArray) (rs:List RowG):List RowG:=comeGo col list (matchG rs list) rs 0
theorem ids2_len (rs:List RowG) (list:List ByteArray):((idsOf2 rs list).getD 0 []).length=rs.length∧((idsOf2 rs list).getD 1 []).length=list.length:=by
 constructor;(· show (idsOne [] (rs.map (·.2))).2.length=_;rw[idsOne_length,List.length_map]);(· show (idsOne _ list).2.length=_;rw[idsOne_length])
theorem matchG_len (rs:List RowG) (list:List ByteArray):(matchG rs list).length=rs.length:=by
 rw[matchG,matchOf,matchFrom_length,(ids2_len rs list).1]
theorem matchG_up (rs:List RowG) (list:List ByteArray):Up list.length 0 (matchG rs list):=by
 have:=match_up ((idsOf2 rs list).getD 0 []) ((idsOf2 rs list).getD 1 [])
 rwa [(ids2_len rs list).2] at this
theorem comeGo_nil (col:Nat) (list:List ByteArray) (rs:List RowG) (a:Nat):comeGo col list [] rs a=(list.drop a).map (oneRow col):=by cases rs <;> rfl
theorem comeGo_no (col:Nat) (list:List ByteArray) (ms:List Int) (x:RowG) (rs:List RowG) (a:Nat):comeGo col list (-1 :: ms) (x :: rs) a=x :: comeGo col list ms rs a:=by
 rw[comeGo,if_neg (by decide)]
theorem comeGo_yes (col:Nat) (list:List ByteArray) (k:Nat) (ms:List Int) (x:RowG) (rs:List RowG) (a:Nat):comeGo col list ((k:Int) :: ms) (x :: rs) a=((list.take k).drop a).map (oneRow col) ++ (x.1.set col 1,x.2) :: comeGo col list ms rs (k+1):=by
 rw[comeGo,if_pos (by omega),Int.toNat_natCast]
theorem comeGo_len (col:Nat) (list:List ByteArray) : ∀ (ms:List Int) (rs:List RowG) (a:Nat),ms.length=rs.length→Up list.length a ms→(comeGo col list ms rs a).length≤rs.length+(list.length - a)
 | [],rs,a,h,_=>by
  (rw[comeGo_nil];simp)
 | m :: ms,[],a,h,_=>by simp at h
 | m :: ms,y :: rs,a,h,hu=>by
  (have h':ms.length=rs.length:=by simpa using h)
  rcases hu with ⟨rfl,hu⟩|⟨k,rfl,h1,h2,hu⟩
  (· have:=comeGo_len col list ms rs a h' hu;(rw[comeGo_no,List.length_cons,List.length_cons];omega));(· have:=comeGo_len col list ms rs (k+1) h' hu;rw[comeGo_yes];simp only[List.length_append,List.length_map,List.length_drop,List.length_take,List.length_cons];omega)
theorem comeF_len (col:Nat) (list:List ByteArray) (rs:List RowG):(comeF col list rs).length≤rs.length+list.length:=by
 have:=comeGo_len col list _ rs 0 (matchG_len rs list) (matchG_up rs list);(rw[comeF];omega)
end GapMath_sec
section Gap5_sec
open Go.RowKit Go.Proofs.YthcnfflhejogfaaDoorW.PrintWords Go.Proofs.YthcnfflhejogfaaDoorW.PrintLast Go.Proofs.YthcnfflhejogfaaDoorW.PrintMore
def markB (m:Int):UInt8:=if m=0 then 32 else 45
def rowOut (n:Nat) (x:RowG):S57:=⟨⟨((x.1.map markB).take n).toArray⟩,x.2⟩
end Gap5_sec
section PairMath_sec
theorem addT_self (t:List ByteArray) (s:ByteArray):s ∈ addT t s:=by
 (unfold addT;split);(· (rename_i h;exact(place_mem s).2 h));(· simp)
theorem addT_sub (t:List ByteArray) (s x:ByteArray) (h:x ∈ t):x ∈ addT t s:=by
 (unfold addT;split);(· exact h);(· simp[h])
theorem place_addT {t:List ByteArray} {s x:ByteArray} (h:x ∈ t):place x (addT t s)=place x t:=by
 (unfold addT;split);(· rfl);(· exact place_append x _ ((place_mem x).1 h))
theorem place_addT_self (t:List ByteArray) (s:ByteArray):place s (addT t s)=place s t:=by
 (unfold addT;split);(· rfl);(· (rename_i h;rw[place_new s [] h,place_not h]))
theorem place_inj {t:List ByteArray} {s s':ByteArray} (h:s ∈ t) (e:place s t=place s' t):s=s':=by
 have h1:=(place_mem s).1 h;(have h2:place s' t < t.length:=by omega);have e1:=place_get s h1;have e2:=place_get s' h2;rw[← e1,← e2]
 congr 1
def num (t:List ByteArray) (s:ByteArray):Int:=(place s t:Int)
theorem num_inj {t:List ByteArray} {s s':ByteArray} (h:s ∈ t) (e:num t s=num t s'):s=s':=place_inj h (by unfold num at e;omega)
theorem idsOne_spec : ∀ (t l:List ByteArray),(∀ x ∈ t,x ∈ (idsOne t l).1∧place x (idsOne t l).1=place x t)∧(∀ x ∈ l,x ∈ (idsOne t l).1)∧(idsOne t l).2=l.map (num (idsOne t l).1)
 | t,[]=>⟨fun x h=>⟨h,rfl⟩,fun x h=>by simp at h,rfl⟩
 | t,s :: l=>by
  obtain⟨h1,h2,h3⟩:=idsOne_spec (addT t s) l;have hs:=h1 s (addT_self t s);refine⟨fun x h=>?_,fun x h=>?_,?_⟩;(· have:=h1 x (addT_sub t s x h);exact⟨this.1,this.2.trans (place_addT h)⟩)
  ·
   rcases List.mem_cons.1 h with rfl|h
   (· exact hs.1);(· exact h2 x h)
  ·
   simp only[idsOne,List.map_cons];rw[h3]
   congr 1
   unfold num;rw[hs.2,place_addT_self]
theorem tabOf_spec : ∀ (t:List ByteArray) (ls:List (List ByteArray)),(∀ x ∈ t,x ∈ tabOf t ls∧place x (tabOf t ls)=place x t)∧(∀ l ∈ ls,∀ x ∈ l,x ∈ tabOf t ls)∧idsMany t ls=ls.map (fun l=>l.map (num (tabOf t ls)))
 | t,[]=>⟨fun x h=>⟨h,rfl⟩,fun x h=>by simp at h,rfl⟩
 | t,l :: ls=>by
  obtain⟨h1,h2,h3⟩:=tabOf_spec (idsOne t l).1 ls;obtain⟨g1,g2,g3⟩:=idsOne_spec t l;refine⟨fun x h=>?_,fun k hk x h=>?_,?_⟩;(· have:=h1 x (g1 x h).1;exact⟨this.1,this.2.trans (g1 x h).2⟩)
  ·
   rcases List.mem_cons.1 hk with rfl|hk
   (· exact(h1 x (g2 x h)).1);(· exact h2 k hk x h)
  ·
   simp only[idsMany,tabOf,List.map_cons];rw[h3,g3]
   congr 1
   (refine List.map_congr_left fun x hx=>?_);unfold num;rw[(h1 x (g2 x hx)).2]
theorem idsAll_map (ls:List (List ByteArray)):idsAll ls=ls.map (fun l=>l.map (num (tabOf [] ls))):=(tabOf_spec [] ls).2.2
theorem tabAll {ls:List (List ByteArray)} {l:List ByteArray} (hl:l ∈ ls) {x:ByteArray} (hx:x ∈ l):x ∈ tabOf [] ls:=(tabOf_spec [] ls).2.1 l hl x hx
theorem lcsL_map {α:Type} (f g:α→Int) (a b:List α) (h : ∀ x ∈ a,∀ y ∈ b,(f x=f y↔g x=g y)):lcsL (a.map f) (b.map f)=lcsL (a.map g) (b.map g):=by
 match a,b with
 | [],b=>simp
 | x :: xs,[]=>simp
 | x :: xs,y :: ys =>
  simp only[List.map_cons];rw[lcsL_cons,lcsL_cons];have h1:=lcsL_map f g xs ys (fun u hu v hv=>h u (by simp[hu]) v (by simp[hv]));have h2:=lcsL_map f g xs (y :: ys) (fun u hu v hv=>h u (by simp[hu]) v hv);have h3:=lcsL_map f g (x :: xs) ys (fun u hu v hv=>h u hu v (by simp[hv]));(simp only[List.map_cons] at h2 h3);rw[h1,h2,h3];have:=h x (by simp) y (by simp)
  by_cases e:f x=f y
  (· rw[if_pos e,if_pos (this.1 e)]);(· rw[if_neg e,if_neg (fun e'=>e (this.2 e'))])
 termination_by a.length+b.length
theorem matchFrom_map {α:Type} (f g:α→Int) (a b:List α) (j:Nat) (h : ∀ x ∈ a,∀ y ∈ b,(f x=f y↔g x=g y)):matchFrom (a.map f) (b.map f) j=matchFrom (a.map g) (b.map g) j:=by
 match a,b with
 | [],b=>simp[matchFrom_nil]
 | x :: xs,[]=>simp[matchFrom_rest]
 | x :: xs,y :: ys =>
  simp only[List.map_cons];rw[matchFrom_cons,matchFrom_cons];have l2:=lcsL_map f g xs (y :: ys) (fun u hu v hv=>h u (by simp[hu]) v hv);have l3:=lcsL_map f g (x :: xs) ys (fun u hu v hv=>h u hu v (by simp[hv]));have h1:=matchFrom_map f g xs ys (j+1) (fun u hu v hv=>h u (by simp[hu]) v (by simp[hv]));have h2:=matchFrom_map f g xs (y :: ys) j (fun u hu v hv=>h u (by simp[hu]) v hv);have h3:=matchFrom_map f g (x :: xs) ys (j+1) (fun u hu v hv=>h u hu v (by simp[hv]));(simp only[List.map_cons] at h2 h3 l2 l3);rw[h1,h2,h3,l2,l3];have:=h x (by simp) y (by simp)
  by_cases e:f x=f y
  (· rw[if_pos e,if_pos (this.1 e)]);(· rw[if_neg e,if_neg (fun e'=>e (this.2 e'))])
 termination_by a.length+b.length
def matchS (a b:List ByteArray):List Int:=matchOf (a.map (num (a ++ b))) (b.map (num (a ++ b)))
def lcsS (a b:List ByteArray):Nat:=lcsL (a.map (num (a ++ b))) (b.map (num (a ++ b)))
theorem num_iff {t:List ByteArray} {x y:ByteArray} (h:x ∈ t):num t x=num t y↔x=y:=⟨fun e=>num_inj h e,fun e=>by rw[e]⟩
theorem matchS_num {t:List ByteArray} {a b:List ByteArray} (h : ∀ x ∈ a,x ∈ t):matchOf (a.map (num t)) (b.map (num t))=matchS a b :=
  matchFrom_map _ _ a b 0 fun x hx y hy=>(num_iff (h x hx)).trans (num_iff (by simp[hx])).symm
theorem matchS_length (a b:List ByteArray):(matchS a b).length=a.length:=by rw[matchS,matchOf,matchFrom_length,List.length_map]
def Fits (list:List ByteArray):List Int→List ByteArray→Nat→Prop
  | [],[],lo=>lo≤list.length
  | m :: ms,s :: ss,lo=>(m = -1∧Fits list ms ss lo)∨(∃ k:Nat,m=(k:Int)∧lo≤k∧list[k]? = some s∧Fits list ms ss (k+1))
  | _,_,_=>False
theorem Fits.le {list:List ByteArray} : ∀ {ms:List Int} {ss:List ByteArray} {lo:Nat},Fits list ms ss lo→lo≤list.length
 | [],[],lo,h=>h
 | [],_ :: _,lo,h=>h.elim
 | _ :: _,[],lo,h=>h.elim
 | m :: ms,s :: ss,lo,h=>by
  rcases h with ⟨_,h⟩|⟨k,_,h1,_,h⟩
  (· exact Fits.le h);(· (have:=Fits.le h;omega))
theorem Fits.up {list:List ByteArray} : ∀ {ms:List Int} {ss:List ByteArray} {lo:Nat},Fits list ms ss lo→Up list.length lo ms
 | [],[],lo,h=>h
 | [],_ :: _,lo,h=>h.elim
 | _ :: _,[],lo,h=>h.elim
 | m :: ms,s :: ss,lo,h=>by
  rcases h with ⟨h1,h⟩|⟨k,h1,h2,h3,h⟩
  (· exact .inl ⟨h1,h.up⟩);(· exact .inr ⟨k,h1,h2,(List.getElem?_eq_some_iff.1 h3).1,h.up⟩)
theorem fits_of_rises {f:ByteArray→Int} {list:List ByteArray} : ∀ {ms:List Int} {a b:List ByteArray} {j n:Nat},list.drop j=b→j≤list.length→ms.length=a.length→(∀ x ∈ a,∀ y ∈ b,f x=f y→x=y)→Rises (a.map f) (b.map f) j ms n→Fits list ms a j
 | [],[],b,j,n,hb,hj,hl,hf,h=>hj
 | [],_ :: _,b,j,n,hb,hj,hl,hf,h=>by simp at hl
 | _ :: _,[],b,j,n,hb,hj,hl,hf,h=>by simp at hl
 | m :: ms,x :: a,b,j,n,hb,hj,hl,hf,h=>by
  (have hl':ms.length=a.length:=by simpa using hl)
  rcases h with ⟨h1,h2⟩|⟨k,n',h1,h2,h3,h4,h5⟩
  (· exact .inl ⟨h1,fits_of_rises hb hj hl' (fun u hu=>hf u (by simp[hu])) h2⟩)
  ·
   (simp only[List.map_cons,List.head?_cons,List.getElem?_map,Option.map_eq_some_iff] at h3);obtain⟨y,hy,e⟩:=h3;have hym:y ∈ b:=List.mem_of_getElem? hy;have:=hf x (by simp) y hym e.symm;subst this;(rw[← hb,List.getElem?_drop] at hy);have hlt:=(List.getElem?_eq_some_iff.1 hy).1;refine .inr ⟨j+k,h1,by omega,hy,fits_of_rises (b:=b.drop (k+1)) (n:=n') ?_ (by omega) hl' (fun u hu v hv=>hf u (by simp[hu]) v (List.mem_of_mem_drop hv)) ?_⟩;(· (rw[← hb,List.drop_drop];rfl));(· (rw[List.map_drop];exact h5))
theorem matchS_fits (a b:List ByteArray):Fits b (matchS a b) a 0 :=
  fits_of_rises (f:=num (a ++ b)) (n:=lcsS a b) (List.drop_zero ..) (Nat.zero_le _) (matchS_length a b) (fun x hx y _ e=>num_inj (by simp[hx]) e) (matchFrom_rises _ _ 0)
end PairMath_sec
section GapLaw_sec
theorem matchG_S (rs:List RowG) (list:List ByteArray):matchG rs list=matchS (rs.map (·.2)) list:=by
 unfold matchG idsOf2;rw[idsAll_map];(exact matchS_num fun x hx=>tabAll (ls:=[rs.map (·.2),list]) (by simp) hx)
theorem comeF_def (col:Nat) (list:List ByteArray) (rs:List RowG):comeF col list rs=comeGo col list (matchS (rs.map (·.2)) list) rs 0:=by rw[comeF,matchG_S]
def Cols (n:Nat) (rs:List RowG):Prop := ∀ x ∈ rs,x.1.length=16∧(∀ c,x.1.getD c 0=0∨x.1.getD c 0=1)∧(∀ c,n≤c→x.1.getD c 0=0)∧(∃ c,c < n∧x.1.getD c 0=1)
theorem getD_set (l:List Int) (i c:Nat) (v:Int) (h:i < l.length):(l.set i v).getD c 0=if c=i then v else l.getD c 0:=by
 simp only[List.getD_eq_getElem?_getD,List.getElem?_set]
 by_cases e:c=i
 (· (subst e;simp[h]));(· simp[e,Ne.symm e])
theorem noMarks_getD (c:Nat):noMarks.getD c 0=0:=by
 simp only[noMarks,List.getD_eq_getElem?_getD,List.getElem?_replicate];(split <;> rfl)
theorem oneRow_getD {col:Nat} (h:col < 16) (s:ByteArray) (c:Nat):(oneRow col s).1.getD c 0=if c=col then 1 else 0:=by
 rw[oneRow,getD_set _ _ _ _ (by simpa [noMarks] using h),noMarks_getD]
theorem oneRow_len (col:Nat) (s:ByteArray):(oneRow col s).1.length=16:=by simp[oneRow,noMarks]
theorem comeGo_forall (P:RowG→Prop) (col:Nat) (list:List ByteArray) (h1 : ∀ s ∈ list,P (oneRow col s)) : ∀ (ms:List Int) (rs:List RowG) (a:Nat),ms.length=rs.length→(∀ x ∈ rs,P x∧P (x.1.set col 1,x.2)) → ∀ x ∈ comeGo col list ms rs a,P x
 | [],rs,a,hl,h=>by
  rw[comeGo_nil];intro x hx;obtain⟨s,hs,rfl⟩:=List.mem_map.1 hx;exact h1 s (List.mem_of_mem_drop hs)
 | m :: ms,[],a,hl,h=>by simp at hl
 | m :: ms,y :: rs,a,hl,h=>by
  (have ih:=fun a=>comeGo_forall P col list h1 ms rs a (by simpa using hl) (fun x hx=>h x (List.mem_cons_of_mem _ hx)));have hy:=h y List.mem_cons_self;intro x hx;(rw[comeGo] at hx);(split at hx)
  ·
   rcases List.mem_append.1 hx with hx|hx
   (· obtain⟨s,hs,rfl⟩:=List.mem_map.1 hx;exact h1 s (List.mem_of_mem_take (List.mem_of_mem_drop hs)))
   ·
    rcases List.mem_cons.1 hx with rfl|hx
    (· exact hy.2);(· exact ih _ x hx)
  ·
   rcases List.mem_cons.1 hx with rfl|hx
   (· exact hy.1);(· exact ih _ x hx)
theorem comeF_len_m (rs:List RowG) (list:List ByteArray):(matchS (rs.map (·.2)) list).length=rs.length:=by rw[matchS_length,List.length_map]
theorem Cols.come {n:Nat} {rs:List RowG} (h:Cols n rs) (hn:n < 16) (list:List ByteArray):Cols (n+1) (comeF n list rs):=by
 rw[comeF_def];(refine comeGo_forall (fun x=>x.1.length=16∧(∀ c,x.1.getD c 0=0∨x.1.getD c 0=1)∧(∀ c,n+1≤c→x.1.getD c 0=0)∧(∃ c,c < n+1∧x.1.getD c 0=1)) n list (fun s hs=>⟨oneRow_len _ _,fun c=>?_,fun c hc=>?_,n,by omega,?_⟩) _ rs 0 (comeF_len_m rs list) fun x hx=>?_);(· (rw[oneRow_getD hn];split <;> simp));(· rw[oneRow_getD hn,if_neg (by omega)]);(· rw[oneRow_getD hn,if_pos rfl])
 ·
  obtain⟨h1,h2,h3,c0,h4,h5⟩:=h x hx;(have hnl:n < x.1.length:=by omega);refine⟨⟨h1,h2,fun c hc=>h3 c (by omega),c0,by omega,h5⟩,by simpa using h1,fun c=>?_,fun c hc=>?_,n,by omega,?_⟩
  ·
   show (x.1.set n 1).getD c 0=0∨(x.1.set n 1).getD c 0=1;(rw[getD_set _ _ _ _ hnl];split);(· simp);(· exact h2 c)
  (· show (x.1.set n 1).getD c 0=0;(rw[getD_set _ _ _ _ hnl,if_neg (by omega)];exact h3 c (by omega)));(· show (x.1.set n 1).getD n 0=1;rw[getD_set _ _ _ _ hnl,if_pos rfl])
def colT (c:Nat) (rs:List RowG):List ByteArray:=(rs.filter (fun x=>x.1.getD c 0 == 1)).map (·.2)
theorem colT_cons (c:Nat) (y:RowG) (l:List RowG):colT c (y :: l)=(if y.1.getD c 0=1 then [y.2] else []) ++ colT c l:=by
 (unfold colT;rw[List.filter_cons])
 by_cases e:y.1.getD c 0=1
 (· (rw[if_pos (by rw[e];rfl),if_pos e];rfl));(· (rw[if_neg (by simpa using e),if_neg e];rfl))
theorem colT_append (c:Nat) (a b:List RowG):colT c (a ++ b)=colT c a ++ colT c b:=by simp[colT]
theorem colT_new {col:Nat} (h:col < 16) (l:List ByteArray):colT col (l.map (oneRow col))=l:=by
 induction l with
 | nil=>rfl
 | cons s l ih =>
  (rw[List.map_cons,colT_cons,oneRow_getD h,if_pos rfl,if_pos rfl,ih];rfl)
theorem colT_new_ne {col c:Nat} (h:col < 16) (hc:c≠col) (l:List ByteArray):colT c (l.map (oneRow col))=[]:=by
 induction l with
 | nil=>rfl
 | cons s l ih =>
  (rw[List.map_cons,colT_cons,oneRow_getD h,if_neg hc,if_neg (by decide),ih];rfl)
theorem drop_take_at {list:List ByteArray} {a k:Nat} {s:ByteArray} (h1:a≤k) (h:list[k]? = some s):(list.take k).drop a ++ s :: list.drop (k+1)=list.drop a:=by
 obtain⟨hk,rfl⟩:=List.getElem?_eq_some_iff.1 h;rw[← List.drop_eq_getElem_cons hk];(have:list.drop a=(list.take k ++ list.drop k).drop a:=by rw[List.take_append_drop]);rw[this,List.drop_append_of_le_length (by rw[List.length_take];omega)]
theorem colT_come {col:Nat} (h:col < 16) (list:List ByteArray) : ∀ (ms:List Int) (rs:List RowG) (a:Nat),Fits list ms (rs.map (·.2)) a→(∀ x ∈ rs,x.1.length=16∧x.1.getD col 0=0)→colT col (comeGo col list ms rs a)=list.drop a
 | [],[],a,hf,hr=>by rw[comeGo_nil,colT_new h]
 | [],_ :: _,a,hf,hr=>hf.elim
 | m :: ms,[],a,hf,hr=>hf.elim
 | m :: ms,y :: rs,a,hf,hr=>by
  (have hr' : ∀ x ∈ rs,x.1.length=16∧x.1.getD col 0=0:=fun x hx=>hr x (List.mem_cons_of_mem _ hx));have hy:=hr y List.mem_cons_self
  rcases hf with ⟨rfl,hf⟩|⟨k,rfl,h1,h2,hf⟩
  (· have ih:=colT_come h list ms rs a hf hr';rw[comeGo_no,colT_cons,if_neg (by rw[hy.2];decide)];exact ih);(· have ih:=colT_come h list ms rs (k+1) hf hr';rw[comeGo_yes,colT_append,colT_new h,colT_cons,if_pos (by rw[getD_set _ _ _ _ (by omega),if_pos rfl]),ih];exact drop_take_at h1 h2)
theorem colT_old {col c:Nat} (h:col < 16) (hc:c≠col) (list:List ByteArray) : ∀ (ms:List Int) (rs:List RowG) (a:Nat),ms.length=rs.length→(∀ x ∈ rs,x.1.length=16)→colT c (comeGo col list ms rs a)=colT c rs
 | [],[],a,hf,hr=>by rw[comeGo_nil,colT_new_ne h hc];rfl
 | [],_ :: _,a,hf,hr=>by simp at hf
 | m :: ms,[],a,hf,hr=>by simp at hf
 | m :: ms,y :: rs,a,hf,hr=>by
  (have hr' : ∀ x ∈ rs,x.1.length=16:=fun x hx=>hr x (List.mem_cons_of_mem _ hx));have hy:=hr y List.mem_cons_self;(have ih:=fun a=>colT_old h hc list ms rs a (by simpa using hf) hr');rw[comeGo];split;(· (have e:(y.1.set col 1).getD c 0=y.1.getD c 0:=by rw[getD_set _ _ _ _ (by omega),if_neg hc]);rw[colT_append,colT_new_ne h hc,List.nil_append];rw[colT_cons,colT_cons,ih];simp only[e]);(· rw[colT_cons,colT_cons,ih])
def rowsFrom:Nat→List (List ByteArray)→List RowG→List RowG
  | _,[],rs=>rs
  | i,l :: ls,rs=>rowsFrom (i+1) ls (comeF i l rs)
theorem rowsFrom_snoc : ∀ (ls:List (List ByteArray)) (i:Nat) (l:List ByteArray) (rs:List RowG),rowsFrom i (ls ++ [l]) rs=comeF (i+ls.length) l (rowsFrom i ls rs)
 | [],i,l,rs=>rfl
 | x :: ls,i,l,rs=>by
  simp only[List.cons_append,rowsFrom,List.length_cons];rw[rowsFrom_snoc ls (i+1) l _,show i+1+ls.length=i+(ls.length+1) by omega]
def rowsOf (ls:List (List ByteArray)):List RowG:=rowsFrom 0 ls []
theorem rowsOf_snoc (ls:List (List ByteArray)) (l:List ByteArray):rowsOf (ls ++ [l])=comeF ls.length l (rowsOf ls):=by
 (rw[rowsOf,rowsFrom_snoc,Nat.zero_add];rfl)
theorem snoc_induct {α:Type} {P:List α→Prop} (h0:P []) (h1 : ∀ l x,P l→P (l ++ [x])) : ∀ l,P l:=by
 intro l;rw[← l.reverse_reverse]
 induction l.reverse with
 | nil=>exact h0
 | cons x l ih=>rw[List.reverse_cons];exact h1 _ _ ih
theorem rowsOf_cols : ∀ ls:List (List ByteArray),ls.length≤16→Cols ls.length (rowsOf ls):=by
 (refine snoc_induct (fun _ x hx=>by simp[rowsOf,rowsFrom] at hx) fun ls l ih h=>?_);rw[rowsOf_snoc];(simp only[List.length_append,List.length_cons,List.length_nil] at h ⊢);exact(ih (by omega)).come (by omega) l
theorem rowsOf_colT : ∀ ls:List (List ByteArray),ls.length≤16 → ∀ c,c < ls.length→colT c (rowsOf ls)=ls.getD c []:=by
 (refine snoc_induct (fun _ c hc=>by simp at hc) fun ls l ih h c hc=>?_);rw[rowsOf_snoc];(simp only[List.length_append,List.length_cons,List.length_nil] at h hc);have hC:=rowsOf_cols ls (by omega)
 by_cases e:c=ls.length
 (· subst e;rw[comeF_def,colT_come (by omega) l _ _ 0 (matchS_fits _ _) (fun x hx=>⟨(hC x hx).1,(hC x hx).2.2.1 _ (Nat.le_refl _)⟩)];simp);(· rw[comeF_def,colT_old (by omega) e l _ _ 0 (comeF_len_m _ _) (fun x hx=>(hC x hx).1),ih (by omega) c (by omega)];simp only[List.getD_eq_getElem?_getD];rw[List.getElem?_append_left (by omega)])
def sumLen (ls:List (List ByteArray)):Nat:=(ls.map List.length).sum
theorem rowsOf_le : ∀ ls:List (List ByteArray),(rowsOf ls).length≤sumLen ls:=by
 (refine snoc_induct (Nat.zero_le _) fun ls l ih=>?_);rw[rowsOf_snoc];have:=comeF_len ls.length l (rowsOf ls);(simp only[sumLen,List.map_append,List.sum_append,List.map_cons,List.map_nil,List.sum_cons,List.sum_nil] at ih ⊢);omega
end GapLaw_sec
section Ref02_sec
open Go.RowKit Go.Proofs.YthcnfflhejogfaaDoorW.PrintWords Go.Proofs.YthcnfflhejogfaaDoorW.PrintLast Go.Proofs.YthcnfflhejogfaaDoorW.PrintMore
def fewB (l:List ByteArray) (n:Nat):Bool:=decide (l.length≤n ∧ ∀ s ∈ l,s.size≤100)
theorem ref_few01_l0 (l:List ByteArray) (n:Nat) (hn:n≤1000000) : ∀ (r i k:Nat),i+r=n+1→2 * r+2≤k→sennitref01_Few.l0 k l (n:Int) (i:Int)=some (decide (l.length≤n ∧ ∀ s ∈ l.drop i,s.size≤100))
 | 0,i,k+2,hi,hk=>by
  (have e:((l.length:Int)≤(n:Int))=(l.length≤n):=by simp);rw[sennitref01_Few.l0]
  by_cases h:(i:Int) < l.length
  (· rw[if_pos h,decide_eq_false (show ¬ ((i:Int)≤(n:Int)) by omega),sennitref01_Few.j1,if_neg (by decide),decide_eq_false (by omega),decide_eq_false (by omega)]);(· rw[if_neg h,sennitref01_Few.j1,if_neg (by decide),List.drop_of_length_le (by omega)];simp)
 | r+1,i,k+2,hi,hk=>by
  rw[sennitref01_Few.l0]
  by_cases h:(i:Int) < l.length
  ·
   have hd:l.drop i=l[i] :: l.drop (i+1):=List.drop_eq_getElem_cons (by omega);rw[if_pos h,decide_eq_true (show ((i:Int)≤(n:Int)) by omega),sennitref01_Few.j1,if_pos rfl,if_pos (by omega),if_pos h,rdOfN (by omega),hd]
   by_cases h2:100 < l[i].size
   (· rw[if_pos (by omega),decide_eq_false];rintro⟨_,h3⟩;have:=h3 l[i] List.mem_cons_self;omega);(· rw[if_neg (by omega),gw1 (by omega)];have:=ref_few01_l0 l n hn r (i+1) k (by omega) (by omega);rw[this];simp only[List.forall_mem_cons,show l[i].size≤100 from by omega,true_and])
  (· rw[if_neg h,sennitref01_Few.j1,if_neg (by decide),List.drop_of_length_le (by omega)];simp)
theorem ref_few01 (l:List ByteArray) (n:Nat) (hn:n≤1000000):Gives (fun k=>sennitref01_Few.f k l (n:Int)) (fewB l n) :=
  ⟨2 * (n+1)+2,fun k hk=>by
    have:=ref_few01_l0 l n hn (n+1) 0 k (by omega) hk
    simpa [sennitref01_Few.f,fewB] using this⟩
theorem ref_id_l0 (t:List ByteArray) (s:ByteArray) (ht:t.length≤1000000) : ∀ (r i:Nat),i+r=t.length→Gives (fun k=>sennitref02_Id.l0 k t s (i:Int)) (if place s (t.drop i) < (t.drop i).length then t else t ++ [s],((i+place s (t.drop i):Nat):Int))
 | 0,i,hi=>Gives.of fun k=>by
  show sennitref02_Id.l0 (k+1) t s (i:Int)=_;rw[sennitref02_Id.l0,if_neg (by omega),List.drop_of_length_le (by omega)];simp only[Option.bind_some,List.nil_append,List.length_nil,Nat.zero_add];rw[if_pos (by omega),if_pos (by omega),if_neg (by simp[place])];(simp[place];omega)
 | r+1,i,hi=>by
  have ha:=dropCons (l:=t) (i:=i) (by omega)
  by_cases e:t[i]=s
  (· (refine Gives.of fun k=>?_);show sennitref02_Id.l0 (k+1) t s (i:Int)=_;rw[sennitref02_Id.l0,if_pos (by omega),if_pos (by omega),rdOfN (by omega),if_pos (strEq.2 e),ha];simp[place,e])
  ·
   (refine((ref_id_l0 t s ht r (i+1) (by omega)).eq ?_).step fun k=>?_)
   ·
    (rw[ha];simp only[place,if_neg e,List.length_cons])
    congr 1
    ·
     by_cases h:place s (t.drop (i+1)) < (t.drop (i+1)).length
     (· rw[if_pos h,if_pos (by omega)]);(· rw[if_neg h,if_neg (by omega)])
    (· omega)
   (· show sennitref02_Id.l0 (k+1) t s (i:Int)=_;rw[sennitref02_Id.l0,if_pos (by omega),if_pos (by omega),rdOfN (by omega),if_neg (fun h=>e (strEq.1 h)),gw1 (by omega)])
theorem ref_id (t:List ByteArray) (s:ByteArray) (ht:t.length≤1000000):Gives (fun k=>sennitref02_Id.f k t s) (addT t s,((place s t:Nat):Int)):=by
 (refine((ref_id_l0 t s ht t.length 0 (by omega)).eq ?_).same fun k=>rfl);simp[addT]
theorem ref_all_l1 (files:List (List ByteArray)) (i:Nat) (hi:i < files.length) (hf:files.length≤1000) (hl:files[i].length≤100000) (out:List (List Int)) (ho:out.length≤1000) (R:List (List Int)) (T:List ByteArray) (ht:(idsOne T files[i]).1.length≤1000000)
    (hR:Gives (fun k=>sennitref02_All.l0 k files (out ++ [(idsOne T files[i]).2]) (idsOne T files[i]).1 ((i+1:Nat):Int)) R) :
    ∀ (r j:Nat),j+r=files[i].length→Gives (fun k=>sennitref02_All.l1 k files out (idsOne T (files[i].take j)).1 (i:Int) (idsOne T (files[i].take j)).2 (j:Int)) R
  | 0,j,hj=>hR.step fun k=>by
    show sennitref02_All.l1 (k+1) files out _ (i:Int) _ (j:Int)=_
    have e:rd_L8 files (i:Int)=files[i]:=getN hi
    rw[sennitref02_All.l1,if_pos (by omega),if_pos (by omega),e,if_neg (by omega),if_pos (by omega),gw1 (by omega),List.take_of_length_le (by omega)]
  | r+1,j,hj=>by
    have e:rd_L8 files (i:Int)=files[i]:=getN hi
    have hjl:j < files[i].length:=by omega
    have tk:files[i].take (j+1)=files[i].take j ++ [files[i][j]]:=(List.take_append_getElem hjl).symm
    have ih:=ref_all_l1 files i hi hf hl out ho R T ht hR r (j+1) (by omega)
    rw[tk,idsOne_snoc] at ih
    have hle:(idsOne T (files[i].take j)).1.length≤1000000:=by
      have : ∀ (t l k:List ByteArray),(idsOne t l).1.length≤(idsOne t (l ++ k)).1.length:=by
        intro t l
        induction l generalizing t with
        | nil =>
          intro k
          induction k generalizing t with
          | nil=>exact Nat.le_refl _
          | cons s k ih=>exact Nat.le_trans (addT_length t s).1 (ih (addT t s))
        | cons s l ih=>intro k;exact ih (addT t s) k
      have h2:=this T (files[i].take j) (files[i].drop j)
      rw[List.take_append_drop] at h2
      omega
    refine Gives.call (ref_id _ files[i][j] hle) ih fun k hk=>?_
    show sennitref02_All.l1 (k+1) files out _ (i:Int) _ (j:Int)=_
    have hs:(idsOne T (files[i].take j)).2.length=j:=by rw[idsOne_length,List.length_take];omega
    rw[sennitref02_All.l1,if_pos (by omega),if_pos (by omega),e,if_pos (by omega),if_pos (by omega),rdOfN hjl,hk,Option.bind_some,if_pos (by omega),gw1 (by omega)]
theorem ref_all_l0 (files:List (List ByteArray)) (hf:files.length≤1000) (hl : ∀ l ∈ files,l.length≤100000) (ht:(files.map List.length).sum≤1000000) :
    ∀ (r i:Nat),i+r=files.length→Gives (fun k=>sennitref02_All.l0 k files (idsMany [] (files.take i)) (tabOf [] (files.take i)) (i:Int)) (idsMany [] files)
  | 0,i,hi=>Gives.of fun k=>by
    show sennitref02_All.l0 (k+1) files _ _ (i:Int)=_
    rw[sennitref02_All.l0,if_neg (by omega),List.take_of_length_le (by omega)]
  | r+1,i,hi=>by
    have hil:i < files.length:=by omega
    have tk:files.take (i+1)=files.take i ++ [files[i]]:=(List.take_append_getElem hil).symm
    have ih:=ref_all_l0 files hf hl ht r (i+1) (by omega)
    rw[tk,idsMany_snoc,tabOf_snoc] at ih
    have hsum:(idsOne (tabOf [] (files.take i)) files[i]).1.length≤1000000:=by
      have h1:=idsOne_table_le (tabOf [] (files.take i)) files[i]
      have h2 : ∀ (t:List ByteArray) (ls:List (List ByteArray)),(tabOf t ls).length≤t.length+(ls.map List.length).sum:=by
        intro t ls
        induction ls generalizing t with
        | nil=>simp[tabOf]
        | cons l ls ih=>have a:=ih (idsOne t l).1;have b:=idsOne_table_le t l;simp only[tabOf,List.map_cons,List.sum_cons];omega
      have h3:=h2 [] (files.take i)
      have h4:((files.take i).map List.length).sum+files[i].length≤(files.map List.length).sum:=by
        have e:files=files.take i ++ files[i] :: files.drop (i+1):=by rw[← dropCons hil,List.take_append_drop]
        have:=congrArg (fun l=>(l.map List.length).sum) e
        simp only[List.map_append,List.sum_append,List.map_cons,List.sum_cons] at this
        omega
      simp only[List.length_nil] at h3
      omega
    have:=ref_all_l1 files i hil hf (hl _ (List.getElem_mem _)) (idsMany [] (files.take i)) (by rw[idsMany_length,List.length_take];omega) _ _ hsum ih files[i].length 0 (by omega)
    refine this.step fun k=>?_
    show sennitref02_All.l0 (k+1) files _ _ (i:Int)=_
    rw[sennitref02_All.l0,if_pos (by omega)]
    rfl
theorem ref_all (files:List (List ByteArray)) (hf:files.length≤1000) (hl : ∀ l ∈ files,l.length≤100000) (ht:(files.map List.length).sum≤1000000):Gives (fun k=>sennitref02_All.f k files) (idsAll files) :=
  (ref_all_l0 files hf hl ht files.length 0 (by omega)).same fun k=>rfl
end Ref02_sec
section Ref03_sec
open Go.RowKit Go.Proofs.YthcnfflhejogfaaDoorW.PrintWords Go.Proofs.YthcnfflhejogfaaDoorW.PrintLast Go.Proofs.YthcnfflhejogfaaDoorW.PrintMore
theorem rd_of {L:List Int} {i:Nat} {x:Int} (h:L[i]? = some x):rd L (i:Int)=x:=by
 simp[rd,h]
def Tab (a b:List Int) (i c:Nat) (T:List Int):Prop :=
  T.length=(a.length+1) * (b.length+1) ∧ ∀ i' j',i'≤a.length→j'≤b.length→T[i' * (b.length+1)+j']? = some (if i < i'∨i=i'∧c≤j' then ((lcsL (a.drop i') (b.drop j'):Nat):Int) else 0)
section
variable {a b T:List Int}
theorem tab_place {n m i j:Nat} (hi:i≤n) (hj:j≤m):i * (m+1)+j < (n+1) * (m+1):=place_lt (by omega) (by omega)
theorem tab_ne {m i j i' j':Nat} (hj:j≤m) (hj':j'≤m) (h:i * (m+1)+j=i' * (m+1)+j'):i=i'∧j=j':=by
 have h1:=place_div (m:=m+1) (i:=i) (j:=j) (by omega);have h2:=place_div (m:=m+1) (i:=i') (j:=j') (by omega);(rw[h] at h1);exact⟨h1.1.symm.trans h2.1,h1.2.symm.trans h2.2⟩
theorem Tab.start:Tab a b a.length (b.length) (List.replicate ((a.length+1) * (b.length+1)) 0):=by
 refine⟨by simp,fun i' j' hi hj=>?_⟩;rw[List.getElem?_replicate,if_pos (tab_place hi hj)];split
 ·
  rename_i h
  have:a.drop i'=[]∨b.drop j'=[]:=by
   rcases h with h|⟨h,h2⟩
   (· omega);(· exact .inl (List.drop_eq_nil_of_le (by omega)))
  rcases this with h|h
  (· (rw[h];simp[lcsL]));(· rw[h];(cases a.drop i' <;> simp[lcsL]))
 (· rfl)
theorem Tab.up {i:Nat} (h:Tab a b (i+1) 0 T):Tab a b i b.length T:=by
 refine⟨h.1,fun i' j' hi hj=>?_⟩;rw[h.2 i' j' hi hj]
 congr 1
 by_cases e:i'=i
 ·
  subst e;rw[if_neg (by omega)];split;(· rename_i h2;rw[show b.drop j'=[] from List.drop_of_length_le (by omega),lcsL_nil_right];rfl);(· rfl)
 ·
  by_cases e2:i < i'
  (· rw[if_pos (show i+1 < i'∨i+1=i'∧0≤j' by omega),if_pos (show i < i'∨i=i'∧b.length≤j' by omega)]);(· rw[if_neg (show ¬ (i+1 < i'∨i+1=i'∧0≤j') by omega),if_neg (show ¬ (i < i'∨i=i'∧b.length≤j') by omega)])
theorem Tab.first(h:Tab a b a.length b.length T):Tab a b a.length 0 T:=by
 refine⟨h.1,fun i' j' hi hj=>?_⟩;rw[h.2 i' j' hi hj]
 congr 1
 by_cases e:i'=a.length
 (· subst e;rw[if_pos (show a.length < a.length∨a.length=a.length∧0≤j' by omega),show a.drop a.length=[] from List.drop_of_length_le (by omega),lcsL_nil_left];(split <;> rfl));(· rw[if_neg (show ¬ (a.length < i'∨a.length=i'∧b.length≤j') by omega),if_neg (show ¬ (a.length < i'∨a.length=i'∧0≤j') by omega)])
theorem Tab.put {i c:Nat} (h:Tab a b i (c+1) T) (hi:i≤a.length) (hc:c≤b.length):Tab a b i c (T.set (i * (b.length+1)+c) ((lcsL (a.drop i) (b.drop c):Nat):Int)):=by
 refine⟨by simpa using h.1,fun i' j' hi' hj'=>?_⟩
 by_cases e:i'=i∧j'=c
 (· obtain⟨rfl,rfl⟩:=e;rw[List.getElem?_set_self (by rw[h.1];exact tab_place hi hc),if_pos (by omega)])
 ·
  rw[List.getElem?_set_ne (fun h2=>e (by have:=tab_ne hc hj' h2;omega)),h.2 i' j' hi' hj']
  congr 1
  by_cases e2:i < i'∨i=i'∧c+1≤j'
  (· rw[if_pos e2,if_pos (by omega)]);(· rw[if_neg e2,if_neg (by omega)])
theorem Tab.at_ {i c i' j':Nat} (h:Tab a b i c T) (hi:i'≤a.length) (hj:j'≤b.length) (hd:i < i'∨i=i'∧c≤j'):rd T ((i':Int) * ((b.length:Int)+1)+(j':Int))=((lcsL (a.drop i') (b.drop j'):Nat):Int):=by
 have:=h.2 i' j' hi hj;(rw[if_pos hd] at this);have e:=rd_of this;rw[← e]
 congr 1
end
theorem place64 {n m i j:Nat} (hn:n≤100) (hm:m≤100) (hi:i≤n) (hj:j≤m):0≤(i:Int) * ((m:Int)+1)∧(i:Int) * ((m:Int)+1)+(j:Int) < ((n:Int)+1) * ((m:Int)+1)∧((n:Int)+1) * ((m:Int)+1)≤10201:=by
 have h1:=tab_place hi hj;have h2:(n+1) * (m+1)≤101 * 101:=Nat.mul_le_mul (by omega) (by omega);(have e1:(i:Int) * ((m:Int)+1)=((i * (m+1):Nat):Int):=by simp);(have e2:((n:Int)+1) * ((m:Int)+1)=(((n+1) * (m+1):Nat):Int):=by simp);rw[e1,e2];omega
set_option maxHeartbeats 1000000 in
theorem rest_step (a b T:List Int) (w i c X0 X1:Int) (k:Nat) (hX0:i * w=X0) (hX1:(i+1) * w=X1) (h0:0≤X0) (hw:X1=X0+w) (hw0:0≤w) (hi:0≤i) (hia:i < a.length) (hc:0≤c) (hcb:c < b.length) (hcw:c+1 < w) (hT:X1+w≤T.length) (hT2:(T.length:Int)≤100000) (hs:(a.length:Int)≤1000)
    (r1 r2 r3:Int) (e1:rd T (X1+c)=r1) (e2:rd T (X0+c+1)=r2) (e3:rd T (X1+c+1)=r3) (h3:0≤r3) (h3':r3≤1000) :
    sennitref03_rest.l1 (k+1) a b w T i c=sennitref03_rest.l1 k a b w (T.set (X0+c).toNat (if rd a i=rd b c then mx (mx r1 r2) (r3+1) else mx r1 r2)) i (c - 1):=by
 have a1:wrap64 (i+1)=i+1:=gw (by omega) (by omega);have a2:wrap64 X1=X1:=gw (by omega) (by omega);have a3:wrap64 (X1+c)=X1+c:=gw (by omega) (by omega);have a4:wrap64 X0=X0:=gw (by omega) (by omega);have a5:wrap64 (X0+c)=X0+c:=gw (by omega) (by omega);have a6:wrap64 (X0+c+1)=X0+c+1:=gw (by omega) (by omega);have a7:wrap64 (X1+c+1)=X1+c+1:=gw (by omega) (by omega);have a8:wrap64 (c - 1)=c - 1:=gw (by omega) (by omega);have a9:wrap64 (r3+1)=r3+1:=gw (by omega) (by omega);have b0:c ≥ 0:=hc;(have b1:0≤X1+c:=by omega);(have b2:X1+c < T.length:=by omega);(have b3:0≤X0+c+1:=by omega);(have b4:X0+c+1 < T.length:=by omega);(have b5:0≤X1+c+1:=by omega);(have b6:X1+c+1 < T.length:=by omega);(have b7:0≤X0+c:=by omega);(have b8:X0+c < T.length:=by omega);rw[sennitref03_rest.l1,a1,hX1,hX0,a2,a3,a4,a5,a6,a7,a8,e1,e2,e3,a9];rw[if_pos b0,if_pos b1,if_pos b2,if_pos b3,if_pos b4,if_pos hi,if_pos hia,if_pos hc,if_pos hcb]
 by_cases eq:rd a i=rd b c
 (· rw[if_pos eq,if_pos b5,if_pos b6,if_pos b7,if_pos b8,if_pos eq]);(· rw[if_neg eq,if_neg eq];rw[if_pos b7,if_pos b8])
theorem place_cast (i m j:Nat):((i:Int) * ((m:Int)+1)+(j:Int)).toNat=i * (m+1)+j:=by
 (have:(i:Int) * ((m:Int)+1)=((i * (m+1):Nat):Int):=by simp);(rw[this];omega)
section
variable {a b:List Int}
theorem rest_l1 (ha:a.length≤100) (hb:b.length≤100) {i:Nat} (hi:i < a.length) : ∀ (c:Nat) (T:List Int),c≤b.length→Tab a b i c T →
    ∃ T',Tab a b i 0 T' ∧ ∀ k,sennitref03_rest.l1 (k+c+1) a b ((b.length:Int)+1) T (i:Int) ((c:Int) - 1)=sennitref03_rest.l0 k a b ((b.length:Int)+1) T' ((i:Int) - 1)
  | 0,T,_,hT=>⟨T,hT,fun k=>by
      rw[sennitref03_rest.l1,if_neg (by omega),gw (by omega) (by omega)]⟩
  | c+1,T,hc,hT=>by
    obtain⟨T',h1,h2⟩:=rest_l1 ha hb hi c _ (by omega) (hT.put (by omega) (by omega))
    refine⟨T',h1,fun k=>?_⟩
    have L:(T.length:Int)=((a.length:Int)+1) * ((b.length:Int)+1):=by rw[hT.1];simp
    have p1:=place64 ha hb (i:=i+1) (j:=b.length) (by omega) (by omega)
    have p4:=place64 ha hb (i:=i) (j:=c) (by omega) (by omega)
    have r1:=hT.at_ (i':=i+1) (j':=c) (by omega) (by omega) (by omega)
    have r2:=hT.at_ (i':=i) (j':=c+1) (by omega) (by omega) (by omega)
    have r3:=hT.at_ (i':=i+1) (j':=c+1) (by omega) (by omega) (by omega)
    have x1:((i+1:Nat):Int)=(i:Int)+1:=by omega
    have x2:((c+1:Nat):Int)=(c:Int)+1:=by omega
    have en:=place_cast i b.length c
    rw[x1] at p1 r1 r3
    rw[x2,← Int.add_assoc] at r2 r3
    have hX:((i:Int)+1) * ((b.length:Int)+1)=(i:Int) * ((b.length:Int)+1)+((b.length:Int)+1):=by rw[Int.add_mul,Int.one_mul]
    have xa:a[i]? = some a[i]:=List.getElem?_eq_getElem hi
    have xb:b[c]? = some b[c]:=List.getElem?_eq_getElem (by omega)
    have q1:=lcsL_le_left (a.drop (i+1)) (b.drop (c+1))
    rw[List.length_drop] at q1
    obtain⟨X0,hX0⟩ : ∃ X0,(i:Int) * ((b.length:Int)+1)=X0:=⟨_,rfl⟩
    obtain⟨X1,hX1⟩ : ∃ X1,((i:Int)+1) * ((b.length:Int)+1)=X1:=⟨_,rfl⟩
    obtain⟨LL,hLL⟩ : ∃ LL,((a.length:Int)+1) * ((b.length:Int)+1)=LL:=⟨_,rfl⟩
    rw[hX0] at p4 r2 hX en
    rw[hX1] at p1 r1 r3 hX
    rw[hLL] at p1 p4 L
    have st:=rest_step a b T ((b.length:Int)+1) i c X0 X1 (k+c+1) hX0 hX1 (by omega) hX (by omega) (by omega) (by omega) (by omega) (by omega) (by omega) (by omega) (by omega) (by omega) _ _ _ r1 r2 r3 (by omega) (by omega)
    rw[show k+(c+1)+1=k+c+1+1 from by omega,show ((c+1:Nat):Int) - 1=(c:Int) from by omega,st,← h2 k,en,rd_of xa,rd_of xb]
    congr 2
    have s1:=lcsL_step_left a[i] (a.drop (i+1)) (b.drop (c+1))
    have s2:=lcsL_step_right b[c] (a.drop (i+1)) (b.drop (c+1))
    rw[← drop_cons' xa] at s1
    rw[← drop_cons' xb] at s2
    by_cases eq:a[i]=b[c]
    · rw[if_pos eq,lcs_eq xa xb eq]
      simp only[mx]
      split <;> split <;> omega
    · rw[if_neg eq,lcs_ne xa xb eq]
      simp only[mx]
      split <;> omega
theorem rest_l0 (ha:a.length≤100) (hb:b.length≤100) : ∀ (r:Nat) (T:List Int),r≤a.length→Tab a b r 0 T →
    ∃ T',Tab a b 0 0 T' ∧ ∀ k,r * (b.length+2)+1≤k→sennitref03_rest.l0 k a b ((b.length:Int)+1) T ((r:Int) - 1)=some T'
  | 0,T,_,hT=>⟨T,hT,fun k hk=>by
      obtain⟨k,rfl⟩ : ∃ k',k=k'+1:=⟨k - 1,by omega⟩
      rw[sennitref03_rest.l0,if_neg (by omega)]⟩
  | r+1,T,hr,hT=>by
    obtain⟨T1,h1,h2⟩:=rest_l1 ha hb (i:=r) (by omega) b.length T (Nat.le_refl _) hT.up
    obtain⟨T',h3,h4⟩:=rest_l0 ha hb r T1 (by omega) h1
    refine⟨T',h3,fun k hk=>?_⟩
    rw[Nat.succ_mul] at hk
    obtain⟨k,rfl⟩ : ∃ k',k=k'+b.length+1+1:=⟨k - b.length - 2,by omega⟩
    rw[sennitref03_rest.l0,if_pos (by omega),gw (by omega) (by omega),show ((r+1:Nat):Int) - 1=(r:Int) from by omega,h2 k]
    exact h4 k (by omega)
theorem rest_gives (ha:a.length≤100) (hb:b.length≤100) : ∃ T,Tab a b 0 0 T∧Gives (fun k=>sennitref03_rest.f k a b) T:=by
 obtain⟨T,h1,h2⟩:=rest_l0 ha hb a.length _ (Nat.le_refl _) (Tab.start (a:=a) (b:=b)).first;refine⟨T,h1,a.length * (b.length+2)+1,fun k hk=>?_⟩;have p:=place64 ha hb (i:=0) (j:=0) (by omega) (by omega)
 have e:(((a.length:Int)+1) * ((b.length:Int)+1)).toNat=(a.length+1) * (b.length+1):=by
  rw[← Int.natCast_one,← Int.natCast_add,← Int.natCast_add,← Int.natCast_mul,Int.toNat_natCast]
 show sennitref03_rest.f k a b=_;have w1:wrap64 ((a.length:Int)+1)=(a.length:Int)+1:=gw (by omega) (by omega);have w2:wrap64 ((b.length:Int)+1)=(b.length:Int)+1:=gw (by omega) (by omega);have w3:wrap64 ((a.length:Int) - 1)=(a.length:Int) - 1:=gw (by omega) (by omega);have hm:(a.length+1) * (b.length+1)≤101 * 101:=Nat.mul_le_mul (by omega) (by omega)
 have w4:wrap64 (((a.length:Int)+1) * ((b.length:Int)+1))=((a.length:Int)+1) * ((b.length:Int)+1):=by
  obtain⟨LL,hLL⟩ : ∃ LL,((a.length:Int)+1) * ((b.length:Int)+1)=LL:=⟨_,rfl⟩;(rw[hLL] at p ⊢);exact gw (by omega) (by omega)
 rw[sennitref03_rest.f,w1,w2,w3,w4,e]
 have h0:0≤((a.length:Int)+1) * ((b.length:Int)+1):=by
  obtain⟨LL,hLL⟩ : ∃ LL,((a.length:Int)+1) * ((b.length:Int)+1)=LL:=⟨_,rfl⟩;(rw[hLL] at p ⊢);omega
 rw[if_pos h0,if_pos (by omega)];exact h2 k hk
set_option maxHeartbeats 1000000 in
theorem match_step (a b T:List Int) (w i j X0 X1:Int) (out:List Int) (k:Nat) (hX0:i * w=X0) (hX1:(i+1) * w=X1) (h0:0≤X0) (hw:X1=X0+w) (hw0:0≤w) (hi:0≤i) (hia:i < a.length) (hc:0≤j) (hcb:j < b.length) (hcw:j+1 < w) (hT:X1+w≤T.length) (hT2:(T.length:Int)≤100000) (hs:(a.length:Int)≤1000) (ho:out.length < 17592186044416)
    (r1 r2:Int) (e1:rd T (X1+j)=r1) (e2:rd T (X0+j+1)=r2) :
    sennitref03_Match.l1 (k+1) a b T w out j i (-1)=if rd a i=rd b j then sennitref03_Match.l0 k a b T w (out ++ [j]) (j+1) (i+1) else if r1 < r2 then sennitref03_Match.l1 k a b T w out (j+1) i (-1) else sennitref03_Match.l0 k a b T w (out ++ [-1]) j (i+1):=by
 have a1:wrap64 (i+1)=i+1:=gw (by omega) (by omega);have a2:wrap64 X1=X1:=gw (by omega) (by omega);have a3:wrap64 (X1+j)=X1+j:=gw (by omega) (by omega);have a4:wrap64 X0=X0:=gw (by omega) (by omega);have a5:wrap64 (X0+j)=X0+j:=gw (by omega) (by omega);have a6:wrap64 (X0+j+1)=X0+j+1:=gw (by omega) (by omega);have a7:wrap64 (j+1)=j+1:=gw (by omega) (by omega);(have b1:0≤X1+j:=by omega);(have b2:X1+j < T.length:=by omega);(have b3:0≤X0+j+1:=by omega);(have b4:X0+j+1 < T.length:=by omega);rw[sennitref03_Match.l1,a1,hX1,hX0,a2,a3,a4,a5,a6,a7,e1,e2];rw[if_pos hcb,if_pos hi,if_pos hia,if_pos hc,if_pos b1,if_pos b2,if_pos b3,if_pos b4,if_pos ho];simp only[if_pos ho]
theorem match_l (ha:a.length≤100) (hb:b.length≤100) {T:List Int} (hT:Tab a b 0 0 T) : ∀ (m:Nat),
    (∀ (i j:Nat) (out:List Int) (k:Nat),i≤a.length→j≤b.length→out.length=i→2 * (a.length - i)+(b.length - j)+1≤m→m≤k→sennitref03_Match.l0 k a b T ((b.length:Int)+1) out (j:Int) (i:Int)=some (out ++ matchFrom (a.drop i) (b.drop j) j)) ∧
    (∀ (i j:Nat) (out:List Int) (k:Nat),i < a.length→j≤b.length→out.length=i→2 * (a.length - i)+(b.length - j)≤m→m≤k→sennitref03_Match.l1 k a b T ((b.length:Int)+1) out (j:Int) (i:Int) (-1)=some (out ++ matchFrom (a.drop i) (b.drop j) j))
  | 0=>⟨fun i j out k _ _ _ h _=>by omega,fun i j out k _ _ _ h _=>by omega⟩
  | m+1=>by
    obtain⟨ih0,ih1⟩:=match_l ha hb hT m
    refine⟨fun i j out k hi hj ho hm hk=>?_,fun i j out k hi hj ho hm hk=>?_⟩
    · obtain⟨k,rfl⟩ : ∃ k',k=k'+1:=⟨k - 1,by omega⟩
      rw[sennitref03_Match.l0]
      by_cases h:i < a.length
      · rw[if_pos (by omega)]
        exact ih1 i j out k h hj ho (by omega) (by omega)
      · rw[if_neg (by omega),List.drop_of_length_le (by omega),matchFrom_nil,List.append_nil]
    · obtain⟨k,rfl⟩ : ∃ k',k=k'+1:=⟨k - 1,by omega⟩
      have xa:a[i]? = some a[i]:=List.getElem?_eq_getElem hi
      have z0:((out ++ [(-1:Int)]) ++ matchFrom (a.drop (i+1)) (b.drop j) j)=out ++ (-1 :: matchFrom (a.drop (i+1)) (b.drop j) j):=by simp
      have w1:wrap64 ((i:Int)+1)=(i:Int)+1:=gw (by omega) (by omega)
      have old:sennitref03_Match.l0 k a b T ((b.length:Int)+1) (out ++ [(-1:Int)]) (j:Int) ((i:Int)+1)=some (out ++ (-1 :: matchFrom (a.drop (i+1)) (b.drop j) j)):=by
        have:=ih0 (i+1) j (out ++ [-1]) k (by omega) hj (by simp[ho]) (by omega) (by omega)
        rw[show ((i+1:Nat):Int)=(i:Int)+1 from by omega] at this
        rw[this,z0]
      by_cases h:j < b.length
      · have xb:b[j]? = some b[j]:=List.getElem?_eq_getElem h
        have p1:=place64 ha hb (i:=i+1) (j:=b.length) (by omega) (by omega)
        have p4:=place64 ha hb (i:=i) (j:=j) (by omega) (by omega)
        have r1:=hT.at_ (i':=i+1) (j':=j) (by omega) (by omega) (by omega)
        have r2:=hT.at_ (i':=i) (j':=j+1) (by omega) (by omega) (by omega)
        have L:(T.length:Int)=((a.length:Int)+1) * ((b.length:Int)+1):=by rw[hT.1];simp
        have x1:((i+1:Nat):Int)=(i:Int)+1:=by omega
        have x2:((j+1:Nat):Int)=(j:Int)+1:=by omega
        rw[x1] at p1 r1
        rw[x2,← Int.add_assoc] at r2
        have hX:((i:Int)+1) * ((b.length:Int)+1)=(i:Int) * ((b.length:Int)+1)+((b.length:Int)+1):=by rw[Int.add_mul,Int.one_mul]
        obtain⟨X0,hX0⟩ : ∃ X0,(i:Int) * ((b.length:Int)+1)=X0:=⟨_,rfl⟩
        obtain⟨X1,hX1⟩ : ∃ X1,((i:Int)+1) * ((b.length:Int)+1)=X1:=⟨_,rfl⟩
        obtain⟨LL,hLL⟩ : ∃ LL,((a.length:Int)+1) * ((b.length:Int)+1)=LL:=⟨_,rfl⟩
        rw[hX0] at p4 r2 hX
        rw[hX1] at p1 r1 hX
        rw[hLL] at p1 p4 L
        have st:=match_step a b T ((b.length:Int)+1) i j X0 X1 out k hX0 hX1 (by omega) hX (by omega) (by omega) (by omega) (by omega) (by omega) (by omega) (by omega) (by omega) (by omega) (by omega) _ _ r1 r2
        rw[st,rd_of xa,rd_of xb]
        clear st p1 p4 r1 r2 L hX hX0 hX1 hLL
        rw[drop_cons' xa,drop_cons' xb,matchFrom_cons,← drop_cons' xa,← drop_cons' xb]
        by_cases eq:a[i]=b[j]
        · rw[if_pos eq,if_pos eq]
          have:=ih0 (i+1) (j+1) (out ++ [(j:Int)]) k (by omega) (by omega) (by simp[ho]) (by omega) (by omega)
          rw[x1,x2] at this
          rw[this]
          simp
        · rw[if_neg eq,if_neg eq]
          by_cases le:lcsL (a.drop i) (b.drop (j+1))≤lcsL (a.drop (i+1)) (b.drop j)
          · rw[if_neg (by omega),if_pos le]
            exact old
          · rw[if_pos (by omega),if_neg le]
            have:=ih1 i (j+1) out k hi (by omega) ho (by omega) (by omega)
            rw[x2] at this
            exact this
      · have b0 : ¬ (j:Int) < b.length:=by omega
        have b8:out.length < 17592186044416:=by omega
        rw[sennitref03_Match.l1,if_neg b0,if_pos b8,w1]
        have hbn:b.drop j=[]:=List.drop_of_length_le (by omega)
        rw[old,hbn,drop_cons' xa,matchFrom_none]
theorem match_gives (ha:a.length≤100) (hb:b.length≤100):Gives (fun k=>sennitref03_Match.f k a b) (matchOf a b):=by
 obtain⟨T,h1,K,h2⟩:=rest_gives ha hb;refine⟨K+(2 * a.length+b.length+1),fun k hk=>?_⟩;show sennitref03_Match.f k a b=_;rw[sennitref03_Match.f,show sennitref03_rest.f k a b=some T from h2 k (by omega),Option.bind_some,gw (by omega) (by omega)];have:=(match_l ha hb h1 (2 * a.length+b.length+1)).1 0 0 [] k (by omega) (by omega) rfl (by omega) (by omega);simpa [matchOf] using this
end
end Ref03_sec
section Ref19_sec
open Go.RowKit Go.Proofs.YthcnfflhejogfaaDoorW.PrintWords Go.Proofs.YthcnfflhejogfaaDoorW.PrintLast Go.Proofs.YthcnfflhejogfaaDoorW.PrintMore
abbrev ApiRow:=S57
def bs (l:List UInt8):ByteArray:=⟨l.toArray⟩
theorem bs_append (a b:List UInt8):bs a ++ bs b=bs (a ++ b):=by
 apply ByteArray.ext;simp[bs,ByteArray.data_append]
theorem bs_size (a:List UInt8):(bs a).size=a.length:=by simp[bs,ByteArray.size]
def rowTexts (R:List ApiRow):List ByteArray:=R.map (·.f1)
theorem ref_paired (R:List ApiRow) (l:List ByteArray) (h1:R.length≤100) (h2:l.length≤100):Gives (fun k=>sennitref19_paired.f k R l) (matchS (rowTexts R) l):=by
 have hl : ∀ (r i:Nat),i+r=R.length→Gives (fun k=>sennitref19_paired.l0 k R l (rowTexts (R.take i)) (i:Int)) (matchS (rowTexts R) l):=by
  intro r
  induction r with
  | zero =>
   intro i hi;(have e:rowTexts (R.take i)=rowTexts R:=by rw[List.take_of_length_le (by omega)]);have hids:=idsAll_map [rowTexts R,l];have hm:=matchS_num (t:=tabOf [] [rowTexts R,l]) (a:=rowTexts R) (b:=l) (fun x hx=>tabAll (ls:=[rowTexts R,l]) (by simp) hx);have hall:=ref_all [rowTexts R,l] (by simp) (by simp[rowTexts];omega) (by simp[rowTexts];omega);(rw[hids] at hall);have hma:=match_gives (a:=(rowTexts R).map (num (tabOf [] [rowTexts R,l]))) (b:=l.map (num (tabOf [] [rowTexts R,l]))) (by simp[rowTexts];omega) (by simp;omega);(rw[hm] at hma);(refine Gives.call hall (Gives.last0 hma (f:=fun k=>(sennitref03_Match.f k ((rowTexts R).map (num (tabOf [] [rowTexts R,l]))) (l.map (num (tabOf [] [rowTexts R,l])))).bind fun t=>some t) fun k hk=>?_) fun k hk=>?_);(· show Option.bind _ _=_;rw[hk,Option.bind_some]);(· show sennitref19_paired.l0 (k+1) R l _ (i:Int)=_;rw[sennitref19_paired.l0,if_neg (by omega),e,hk,Option.bind_some,if_pos (by simp),if_pos (by simp)];rfl)
  | succ r ih =>
   intro i hi;(have hil:i < R.length:=by omega)
   have tk:rowTexts (R.take (i+1))=rowTexts (R.take i) ++ [R[i].f1]:=by
    (rw[← List.take_append_getElem hil,rowTexts,List.map_append];rfl)
   have:=ih (i+1) (by omega);(rw[tk] at this);(refine this.step fun k=>?_);show sennitref19_paired.l0 (k+1) R l _ (i:Int)=_;(have hlen:(rowTexts (R.take i)).length≤100:=by simp[rowTexts];omega);have e:rd_T57 R (i:Int)=R[i]:=getN hil;rw[sennitref19_paired.l0,if_pos (by omega),if_pos (by omega),if_pos (by omega),e,gw1 (by omega)]
 (exact(hl R.length 0 (by omega)).same fun k=>rfl)
def blanksU (n at_:Nat):List UInt8:=(List.range n).map (fun i=>if i=at_ then 45 else 32)
theorem blanksU_succ (n at_:Nat):blanksU (n+1) at_=blanksU n at_ ++ [if n=at_ then 45 else 32]:=by
 simp[blanksU,List.range_succ]
theorem blanksU_len (n at_:Nat):(blanksU n at_).length=n:=by simp[blanksU]
theorem ref_blanks (n at_:Nat) (hn:n≤1000000):Gives (fun k=>sennitref19_blanks.f k (n:Int) (at_:Int)) (bs (blanksU n at_)):=by
 have hl : ∀ (r i:Nat),i+r=n→Gives (fun k=>sennitref19_blanks.l0 k (n:Int) (at_:Int) (bs (blanksU i at_)) (i:Int)) (bs (blanksU n at_)):=by
  intro r
  induction r with
  | zero =>
   intro i hi;(refine Gives.of fun k=>?_);show sennitref19_blanks.l0 (k+1) (n:Int) (at_:Int) _ (i:Int)=_;(obtain rfl:i=n:=by omega);rw[sennitref19_blanks.l0,if_neg (by omega)]
  | succ r ih =>
   intro i hi;have:=ih (i+1) (by omega);(rw[blanksU_succ] at this);(refine this.step fun k=>?_);show sennitref19_blanks.l0 (k+1) (n:Int) (at_:Int) _ (i:Int)=_;(have hs:(bs (blanksU i at_)).size=i:=by rw[bs_size,blanksU_len]);rw[sennitref19_blanks.l0,if_pos (by omega),hs,gw1 (by omega),← bs_append]
   by_cases e:i=at_
   (· (rw[if_pos (by omega),if_pos (by omega),if_pos e];rfl));(· (rw[if_neg (by omega),if_pos (by omega),if_neg e];rfl))
 (exact(hl n 0 (by omega)).same fun k=>rfl)
def comeR (col:Nat) (list:List ByteArray):List Int→List ApiRow→Nat→List ApiRow
  | m :: ms,x :: R,at_=>if 0≤m then ((list.take m.toNat).drop at_).map (fun s=>(⟨bs (blanksU (col+1) col),s⟩:ApiRow)) ++ (⟨x.f0 ++ bs [45],x.f1⟩:ApiRow) :: comeR col list ms R (m.toNat+1) else (⟨x.f0 ++ bs [32],x.f1⟩:ApiRow) :: comeR col list ms R at_
  | _,_,at_=>(list.drop at_).map (fun s=>(⟨bs (blanksU (col+1) col),s⟩:ApiRow))
section
variable {col:Nat} {list:List ByteArray} {R:List ApiRow} {ms:List Int}
theorem ref_come_l1 (hcol:col≤100) (hl:list.length≤100) (i:Int) (r:List ApiRow) : ∀ (n at_ to_:Nat) (out:List ApiRow),at_+n=to_→to_≤list.length→out.length+n≤1000 →
    Gives (fun k=>sennitref19_come.j3 k R list (col:Int) ms (out ++ ((list.take to_).drop at_).map (fun s=>(⟨bs (blanksU (col+1) col),s⟩:ApiRow))) (to_:Int) i (to_:Int)) r→Gives (fun k=>sennitref19_come.l1 k R list (col:Int) ms out (at_:Int) i (to_:Int)) r
  | 0,at_,to_,out,hn,ht,ho,h=>by
    obtain rfl:at_=to_:=by omega
    rw[List.drop_eq_nil_of_le (by rw[List.length_take];omega),List.map_nil,List.append_nil] at h
    refine h.step fun k=>?_
    show sennitref19_come.l1 (k+1) R list (col:Int) ms out (at_:Int) i (at_:Int)=_
    rw[sennitref19_come.l1,if_pos (by omega),if_neg (by omega)]
  | n+1,at_,to_,out,hn,ht,ho,h=>by
    have hal:at_ < list.length:=by omega
    have e:(list.take to_).drop at_=list[at_] :: (list.take to_).drop (at_+1):=by
      rw[List.drop_eq_getElem_cons (by rw[List.length_take];omega),List.getElem_take]
    rw[e,List.map_cons] at h
    have h':=ref_come_l1 hcol hl i r n (at_+1) to_ (out ++ [(⟨bs (blanksU (col+1) col),list[at_]⟩:ApiRow)]) (by omega) ht (by simp;omega) (by simpa using h)
    refine Gives.call (ref_blanks (col+1) col (by omega)) h' fun k hk=>?_
    show sennitref19_come.l1 (k+1) R list (col:Int) ms out (at_:Int) i (to_:Int)=_
    rw[sennitref19_come.l1,if_pos (by omega),if_pos (by omega),gw1 (by omega),hk,Option.bind_some,if_pos (by omega),if_pos (by omega),if_pos (by omega),rdOfN hal,gw1 (by omega)]
theorem ref_come_l0 (hcol:col≤100) (hl:list.length≤100) (hR:R.length≤100) (hm:ms.length=R.length) (hz : ∀ x ∈ R,x.f0.size≤1000) : ∀ (n i at_:Nat) (out:List ApiRow),i+n=R.length→Up list.length at_ (ms.drop i)→out.length≤at_+i →
    Gives (fun k=>sennitref19_come.l0 k R list (col:Int) ms out (at_:Int) (i:Int)) (out ++ comeR col list (ms.drop i) (R.drop i) at_)
  | 0,i,at_,out,hn,hu,ho=>by
    have hle:=hu.le
    have e1:ms.drop i=[]:=List.drop_eq_nil_of_le (by omega)
    rw[e1]
    have e2:comeR col list [] (R.drop i) at_=(list.drop at_).map (fun s=>(⟨bs (blanksU (col+1) col),s⟩:ApiRow)):=rfl
    rw[e2]
    have h0:Gives (fun k=>sennitref19_come.j3 k R list (col:Int) ms (out ++ ((list.take list.length).drop at_).map (fun s=>(⟨bs (blanksU (col+1) col),s⟩:ApiRow))) (list.length:Int) (i:Int) (list.length:Int)) (out ++ (list.drop at_).map (fun s=>(⟨bs (blanksU (col+1) col),s⟩:ApiRow))):=by
      rw[List.take_length]
      refine((Gives.of fun k=>?_:Gives (fun k=>sennitref19_come.l0 k R list (col:Int) ms (out ++ (list.drop at_).map (fun s=>(⟨bs (blanksU (col+1) col),s⟩:ApiRow))) (list.length:Int) ((i+1:Nat):Int)) _)).step fun k=>?_
      · show sennitref19_come.l0 (k+1) R list (col:Int) ms _ (list.length:Int) ((i+1:Nat):Int)=_
        rw[sennitref19_come.l0,if_neg (by omega)]
      · show sennitref19_come.j3 (k+1) R list (col:Int) ms _ (list.length:Int) (i:Int) (list.length:Int)=_
        rw[sennitref19_come.j3,if_neg (by omega),gw1 (by omega)]
    have h1:=ref_come_l1 (R:=R) (ms:=ms) hcol hl (i:Int) _ (list.length - at_) at_ list.length out (by omega) (Nat.le_refl _) (by omega) h0
    refine(h1.step (f:=fun k=>sennitref19_come.j1 k R list (col:Int) ms out (at_:Int) (i:Int) (list.length:Int)) fun k=>?_).step fun k=>?_
    · show sennitref19_come.j1 (k+1) R list (col:Int) ms out (at_:Int) (i:Int) (list.length:Int)=_
      rw[sennitref19_come.j1]
    · show sennitref19_come.l0 (k+1) R list (col:Int) ms out (at_:Int) (i:Int)=_
      rw[sennitref19_come.l0,if_pos (by omega),if_neg (by omega)]
  | n+1,i,at_,out,hn,hu,ho=>by
    have hiR:i < R.length:=by omega
    have him:i < ms.length:=by omega
    have e1:=dropCons him
    have e2:=dropCons hiR
    have eR:rd_T57 R (i:Int)=R[i]:=getN hiR
    have hzi:=hz R[i] (List.getElem_mem _)
    rw[e1] at hu
    rw[e1,e2]
    rcases hu with ⟨h1,hu⟩|⟨k,h1,h2,h3,hu⟩
    · rw[h1]
      have hle:=hu.le
      have e3:comeR col list (-1 :: ms.drop (i+1)) (R[i] :: R.drop (i+1)) at_=(⟨R[i].f0 ++ bs [32],R[i].f1⟩:ApiRow) :: comeR col list (ms.drop (i+1)) (R.drop (i+1)) at_:=by rw[comeR,if_neg (by decide)]
      rw[e3]
      have ih:=ref_come_l0 hcol hl hR hm hz n (i+1) at_ (out ++ [(⟨R[i].f0 ++ bs [32],R[i].f1⟩:ApiRow)]) (by omega) hu (by simp;omega)
      rw[List.append_assoc,List.singleton_append] at ih
      refine(((ih.step (f:=fun k=>sennitref19_come.j3 k R list (col:Int) ms out (at_:Int) (i:Int) (-1)) fun k=>?_).step (f:=fun k=>sennitref19_come.l1 k R list (col:Int) ms out (at_:Int) (i:Int) (-1)) fun k=>?_).step (f:=fun k=>sennitref19_come.j1 k R list (col:Int) ms out (at_:Int) (i:Int) (-1)) fun k=>?_).step fun k=>?_
      · show sennitref19_come.j3 (k+1) R list (col:Int) ms out (at_:Int) (i:Int) (-1)=_
        rw[sennitref19_come.j3,if_pos (by omega),if_neg (by decide),if_pos (by omega),eR,if_pos (by omega),if_pos (by omega),gw1 (by omega)];rfl
      · show sennitref19_come.l1 (k+1) R list (col:Int) ms out (at_:Int) (i:Int) (-1)=_
        rw[sennitref19_come.l1,if_neg (by decide)]
      · show sennitref19_come.j1 (k+1) R list (col:Int) ms out (at_:Int) (i:Int) (-1)=_
        rw[sennitref19_come.j1]
      · show sennitref19_come.l0 (k+1) R list (col:Int) ms out (at_:Int) (i:Int)=_
        rw[sennitref19_come.l0,if_pos (by omega),if_pos (by omega),if_pos (by omega),if_pos (by omega),rdN him,h1]
    · rw[h1]
      have e3:comeR col list ((k:Int) :: ms.drop (i+1)) (R[i] :: R.drop (i+1)) at_=((list.take k).drop at_).map (fun s=>(⟨bs (blanksU (col+1) col),s⟩:ApiRow)) ++ (⟨R[i].f0 ++ bs [45],R[i].f1⟩:ApiRow) :: comeR col list (ms.drop (i+1)) (R.drop (i+1)) (k+1):=by rw[comeR,if_pos (by omega),Int.toNat_natCast]
      rw[e3]
      have hlen:(((list.take k).drop at_).map (fun s=>(⟨bs (blanksU (col+1) col),s⟩:ApiRow))).length=k - at_:=by
        rw[List.length_map,List.length_drop,List.length_take];omega
      obtain⟨nw,hnw⟩ : ∃ nw,((list.take k).drop at_).map (fun s=>(⟨bs (blanksU (col+1) col),s⟩:ApiRow))=nw:=⟨_,rfl⟩
      rw[hnw] at hlen ⊢
      have ih:=ref_come_l0 hcol hl hR hm hz n (i+1) (k+1) (out ++ nw ++ [(⟨R[i].f0 ++ bs [45],R[i].f1⟩:ApiRow)]) (by omega) hu (by simp;omega)
      have e5 : ∀ l:List ApiRow,out ++ nw ++ [(⟨R[i].f0 ++ bs [45],R[i].f1⟩:ApiRow)] ++ l=out ++ (nw ++ (⟨R[i].f0 ++ bs [45],R[i].f1⟩:ApiRow) :: l):=fun l=>by simp
      rw[e5] at ih
      have h3':Gives (fun q=>sennitref19_come.j3 q R list (col:Int) ms (out ++ ((list.take k).drop at_).map (fun s=>(⟨bs (blanksU (col+1) col),s⟩:ApiRow))) (k:Int) (i:Int) (k:Int)) (out ++ (nw ++ (⟨R[i].f0 ++ bs [45],R[i].f1⟩:ApiRow) :: comeR col list (ms.drop (i+1)) (R.drop (i+1)) (k+1))):=by
        rw[hnw]
        refine ih.step fun q=>?_
        show sennitref19_come.j3 (q+1) R list (col:Int) ms (out ++ nw) (k:Int) (i:Int) (k:Int)=_
        rw[sennitref19_come.j3,if_pos (by omega),if_pos (by omega),if_pos (by omega),eR,if_pos (by omega),if_pos (by rw[List.length_append];omega),gw1 (by omega),gw1 (by omega)];rfl
      have h4:=ref_come_l1 (R:=R) (ms:=ms) hcol hl (i:Int) _ (k - at_) at_ k out (by omega) (by omega) (by omega) h3'
      refine(h4.step (f:=fun q=>sennitref19_come.j1 q R list (col:Int) ms out (at_:Int) (i:Int) (k:Int)) fun q=>?_).step fun q=>?_
      · show sennitref19_come.j1 (q+1) R list (col:Int) ms out (at_:Int) (i:Int) (k:Int)=_
        rw[sennitref19_come.j1]
      · show sennitref19_come.l0 (q+1) R list (col:Int) ms out (at_:Int) (i:Int)=_
        rw[sennitref19_come.l0,if_pos (by omega),if_pos (by omega),if_pos (by omega),if_pos (by omega),rdN him,h1]
end
theorem ref_come (R:List ApiRow) (list:List ByteArray) (col:Nat) (hcol:col≤100) (hl:list.length≤100) (hR:R.length≤100) (hz : ∀ x ∈ R,x.f0.size≤1000) :
    Gives (fun k=>sennitref19_come.f k R list (col:Int)) (comeR col list (matchS (rowTexts R) list) R 0):=by
 have h:=ref_come_l0 (ms:=matchS (rowTexts R) list) hcol hl hR (by rw[matchS_length];simp[rowTexts]) hz R.length 0 0 [] (by omega) (matchS_fits _ _).up (by simp);(refine Gives.call0 (ref_paired R list hR hl) h fun k hk=>?_);show sennitref19_come.f k R list (col:Int)=_;(rw[sennitref19_come.f,hk,Option.bind_some];rfl)
theorem rowOut_text (n:Nat) (rs:List RowG):rowTexts (rs.map (rowOut n))=rs.map (·.2):=by
 simp[rowTexts,rowOut]
theorem take_marks {x:List Int} {n:Nat} (h:n < x.length):(x.map markB).take (n+1)=(x.map markB).take n ++ [markB (x.getD n 0)]:=by
 rw[← List.take_append_getElem (by simpa using h),List.getElem_map];simp[h]
theorem rowOut_f0 (n:Nat) (x:RowG):(rowOut n x).f0=bs ((x.1.map markB).take n):=rfl
theorem rowOut_yes {n:Nat} {x:RowG} (h:x.1.length=16) (hn:n < 16):rowOut (n+1) (x.1.set n 1,x.2)=⟨(rowOut n x).f0 ++ bs [45],x.2⟩:=by
 have e:(rowOut (n+1) (x.1.set n 1,x.2))=⟨bs (((x.1.set n 1).map markB).take (n+1)),x.2⟩:=rfl;rw[e,take_marks (by simp;omega),rowOut_f0,bs_append,getD_set _ _ _ _ (by omega),if_pos rfl,List.map_set,List.take_set_of_le (Nat.le_refl _)];rfl
theorem rowOut_no {n:Nat} {x:RowG} (h:x.1.length=16) (hn:n < 16) (h0:x.1.getD n 0=0):rowOut (n+1) x=⟨(rowOut n x).f0 ++ bs [32],x.2⟩:=by
 have e:(rowOut (n+1) x)=⟨bs ((x.1.map markB).take (n+1)),x.2⟩:=rfl;rw[e,take_marks (by omega),rowOut_f0,bs_append,h0];rfl
theorem rowOut_new {n:Nat} (hn:n < 16) (s:ByteArray):rowOut (n+1) (oneRow n s)=⟨bs (blanksU (n+1) n),s⟩:=by
 have e:(rowOut (n+1) (oneRow n s))=⟨bs (((oneRow n s).1.map markB).take (n+1)),s⟩:=rfl;rw[e]
 congr 2
 (refine List.ext_getElem (by simp[blanksU_len,oneRow_len];omega) fun i h1 h2=>?_);(rw[blanksU_len] at h2);(have hi:i < (oneRow n s).1.length:=by rw[oneRow_len];omega)
 have hg:(oneRow n s).1[i]=if i=n then 1 else 0:=by
  have:=oneRow_getD hn s i;simpa [hi] using this
 rw[List.getElem_take,List.getElem_map,hg];simp only[blanksU,List.getElem_map,List.getElem_range];(split <;> rfl)
theorem comeR_rows {n:Nat} (hn:n < 16) (list:List ByteArray) : ∀ (ms:List Int) (rs:List RowG) (a:Nat),ms.length=rs.length→(∀ x ∈ rs,x.1.length=16∧x.1.getD n 0=0)→comeR n list ms (rs.map (rowOut n)) a=(comeGo n list ms rs a).map (rowOut (n+1))
 | [],[],a,hl,h=>by
  rw[comeGo_nil,List.map_map];(exact List.map_congr_left fun s _=>(rowOut_new hn s).symm)
 | [],_ :: _,a,hl,h=>by simp at hl
 | _ :: _,[],a,hl,h=>by simp at hl
 | m :: ms,x :: rs,a,hl,h=>by
  have hx:=h x List.mem_cons_self;(have ih:=fun a=>comeR_rows hn list ms rs a (by simpa using hl) (fun y hy=>h y (List.mem_cons_of_mem _ hy)));rw[List.map_cons,comeR,comeGo];split
  ·
   rw[ih,List.map_append,List.map_cons,rowOut_yes hx.1 hn,List.map_map]
   congr 1
   (exact List.map_congr_left fun s _=>(rowOut_new hn s).symm)
  (· (rw[ih,List.map_cons,rowOut_no hx.1 hn hx.2];rfl))
theorem rowOut_size (n:Nat) (x:RowG):(rowOut n x).f0.size≤n:=by
 (rw[rowOut_f0,bs_size,List.length_take];omega)
def Small19 (ls:List (List ByteArray)):Prop:=ls.length≤16 ∧ ∀ i,i < ls.length→sumLen (ls.take i)≤100∧(ls.getD i []).length≤100
theorem ref_Coalesce (ls:List (List ByteArray)) (h:Small19 ls):Gives (fun k=>sennitref19_Coalesce.f k ls) ((rowsOf ls).map (rowOut ls.length),0):=by
 have hl : ∀ (r i:Nat),i+r=ls.length→Gives (fun k=>sennitref19_Coalesce.l0 k ls ((rowsOf (ls.take i)).map (rowOut i)) (i:Int)) ((rowsOf ls).map (rowOut ls.length),0):=by
  intro r
  induction r with
  | zero =>
   intro i hi;(obtain rfl:i=ls.length:=by omega);(refine Gives.of fun k=>?_);show sennitref19_Coalesce.l0 (k+1) ls _ (ls.length:Int)=_;rw[sennitref19_Coalesce.l0,if_neg (by omega),List.take_length]
  | succ r ih =>
   intro i hi;(have hil:i < ls.length:=by omega);(have hlen:(ls.take i).length=i:=by rw[List.length_take];omega);obtain⟨s1,s2⟩:=h.2 i hil;(rw[show ls.getD i []=ls[i] by simp[hil]] at s2);have hrows:=rowsOf_le (ls.take i);have hcols:=rowsOf_cols (ls.take i) (by have:=h.1;omega);(rw[hlen] at hcols);have tk:ls.take (i+1)=ls.take i ++ [ls[i]]:=(List.take_append_getElem hil).symm;have h1:=ih (i+1) (by omega);(have hi16:i < 16:=by have:=h.1;omega);(rw[tk,rowsOf_snoc,hlen,comeF_def,← comeR_rows hi16 _ _ _ _ (comeF_len_m _ _) (fun x hx=>⟨(hcols x hx).1,(hcols x hx).2.2.1 i (Nat.le_refl _)⟩)] at h1)
   have hc:=ref_come ((rowsOf (ls.take i)).map (rowOut i)) ls[i] i (by omega) s2 (by rw[List.length_map];omega) (fun x hx=>by
    obtain⟨y,_,rfl⟩:=List.mem_map.1 hx
    have:=rowOut_size i y;omega)
   (rw[rowOut_text] at hc);(refine Gives.call hc h1 fun k hk=>?_);show sennitref19_Coalesce.l0 (k+1) ls _ (i:Int)=_;have e:rd_L8 ls (i:Int)=ls[i]:=getN hil;rw[sennitref19_Coalesce.l0,if_pos (by omega),if_neg (by rw[List.length_map];omega),if_pos (by omega),e,if_neg (by omega),hk,Option.bind_some,gw1 (by omega)]
 (refine(hl ls.length 0 (by omega)).same fun k=>?_);show sennitref19_Coalesce.f k ls=_;rw[sennitref19_Coalesce.f,if_neg (by have:=h.1;omega)];rfl
end Ref19_sec
section GapTells_sec
open Go.RowKit Go.Proofs.YthcnfflhejogfaaDoorW.PrintWords Go.Proofs.YthcnfflhejogfaaDoorW.PrintLast Go.Proofs.YthcnfflhejogfaaDoorW.PrintMore
theorem sumLen_take (n:Nat) : ∀ (ls:List (List ByteArray)) (i:Nat),(∀ l ∈ ls,l.length≤n)→sumLen (ls.take i)≤i * n
 | [],i,h=>by simp[sumLen]
 | l :: ls,0,h=>by simp[sumLen]
 | l :: ls,i+1,h=>by
  have h1:=sumLen_take n ls i (fun x hx=>h x (List.mem_cons_of_mem _ hx));have h2:=h l List.mem_cons_self;rw[Nat.succ_mul];(simp only[sumLen,List.take_succ_cons,List.map_cons,List.sum_cons] at h1 ⊢);omega
theorem few_small {ls:List (List ByteArray)} (h1:ls.length≤6) (h2 : ∀ l ∈ ls,l.length≤20 ∧ ∀ s ∈ l,s.size≤100):Small19 ls:=by
 refine⟨by omega,fun i hi=>⟨?_,?_⟩⟩;(· have:=sumLen_take 20 ls i (fun l hl=>(h2 l hl).1);omega);(· rw[show ls.getD i []=ls[i] by simp[hi]];have:=(h2 ls[i] (List.getElem_mem _)).1;omega)
theorem rowOut_byte {n c:Nat} {x:RowG} (hx:x.1.length=16) (hn:n≤16) (hc:c < n):(rowOut n x).f0.data.toList[c]? = some (markB (x.1.getD c 0)):=by
 (have hc16:c < x.1.length:=by omega);show ((x.1.map markB).take n)[c]? = _;rw[List.getElem?_take_of_lt hc,List.getElem?_map,List.getElem?_eq_getElem hc16];simp[hc16]
theorem column_colT {n c:Nat} (hn:n≤16) (hc:c < n) : ∀ (rs:List RowG),Cols n rs→((rs.map (rowOut n)).filter (fun x=>x.f0.data.toList[c]? == some 45)).map (·.f1)=colT c rs
 | [],_=>rfl
 | x :: rs,h=>by
  have hx:=h x List.mem_cons_self;have ih:=column_colT hn hc rs (fun y hy=>h y (List.mem_cons_of_mem _ hy));rw[List.map_cons,colT_cons];have hb:=rowOut_byte hx.1 hn hc
  rcases hx.2.1 c with h0|h1
  (· (rw[List.filter_cons_of_neg (by rw[hb,h0];decide),ih,if_neg (by rw[h0];decide)];rfl));(· (rw[List.filter_cons_of_pos (by rw[hb,h1];decide),List.map_cons,ih,if_pos h1];rfl))
theorem rowOut_ok {n:Nat} (hn:n≤16) {rs:List RowG} (h:Cols n rs) : ∀ x ∈ rs.map (rowOut n),x.f0.size=n∧(∀ c ∈ x.f0.data.toList,c=45∨c=32)∧45 ∈ x.f0.data.toList:=by
 intro x hx;obtain⟨y,hy,rfl⟩:=List.mem_map.1 hx;obtain⟨h1,h2,h3,c,h4,h5⟩:=h y hy;refine⟨by rw[rowOut_f0,bs_size,List.length_take,List.length_map];omega,fun b hb=>?_,?_⟩;(· have hb':b ∈ (y.1.map markB).take n:=hb;obtain⟨m,_,rfl⟩:=List.mem_map.1 (List.mem_of_mem_take hb');(unfold markB;split <;> simp));(· have:=rowOut_byte h1 hn h4;(rw[h5] at this);exact List.mem_of_getElem? this)
end GapTells_sec
section Contains_sec
open Go.RowKit Go.Proofs.YthcnfflhejogfaaDoorW.PrintWords Go.Proofs.YthcnfflhejogfaaDoorW.PrintLast Go.Proofs.YthcnfflhejogfaaDoorW.PrintMore
def longL (l:List ByteArray):Bool:=decide (2000 < l.length)
def wrongF (may:List ByteArray→Bool) (L:List (List ByteArray)):Int :=
  if L.length < 2∨17 < L.length then 1 else if L.any (fun l => !may l)=true then 2 else if L.any longL=true then 4 else 0
end Contains_sec
section Lose_sec
open Go.RowKit Go.Proofs.YthcnfflhejogfaaDoorW.PrintWords Go.Proofs.YthcnfflhejogfaaDoorW.PrintLast Go.Proofs.YthcnfflhejogfaaDoorW.PrintMore
open Go.Maps
def loseAt (N col:Nat) (parent:List ByteArray) (lost:Nat→Option (List (List ByteArray))) (to_ at_ line:Nat):Nat→Option (List (List ByteArray)) :=
  if at_ < to_ then fun q=>if q=line then some (((lost line).getD (List.replicate N [])).set col ((parent.take to_).drop at_)) else lost q else lost
end Lose_sec
section Pair_sec
open Go.RowKit Go.Proofs.YthcnfflhejogfaaDoorW.PrintWords Go.Proofs.YthcnfflhejogfaaDoorW.PrintLast Go.Proofs.YthcnfflhejogfaaDoorW.PrintMore
open Go.Maps
def pairGo (N col:Nat) (parent:List ByteArray):List Int→Nat→Nat→Nat→(Nat→Option (List (List ByteArray)))→Nat→Option (List (List ByteArray))
  | [],i,at_,last,lost=>loseAt N col parent lost parent.length at_ last
  | m :: ms,i,at_,last,lost=>if 0≤m then pairGo N col parent ms (i+1) (m.toNat+1) (i+1) (loseAt N col parent lost m.toNat at_ last) else pairGo N col parent ms (i+1) at_ last lost
def markS (m:Int):ByteArray:=if 0≤m then ⟨#[32]⟩ else ⟨#[43]⟩
def marksF (marks:List ByteArray) (ms:List Int):List ByteArray:=(marks.getD 0 ByteArray.empty ++ ⟨#[32]⟩) :: List.zipWith (fun s m=>s ++ markS m) marks.tail ms
end Pair_sec
section Put_sec
open Go.RowKit Go.Proofs.YthcnfflhejogfaaDoorW.PrintWords Go.Proofs.YthcnfflhejogfaaDoorW.PrintLast Go.Proofs.YthcnfflhejogfaaDoorW.PrintMore
open Go.Maps
def lostRows (x:Option (List (List ByteArray))):List S57:=match x with|none=>[]|some ls=>(rowsOf ls).map (rowOut ls.length)
end Put_sec
section Table_sec
open Go.RowKit Go.Proofs.YthcnfflhejogfaaDoorW.PrintWords Go.Proofs.YthcnfflhejogfaaDoorW.PrintLast Go.Proofs.YthcnfflhejogfaaDoorW.PrintMore
open Go.Maps
def marksAll (result:List ByteArray) (parents:List (List ByteArray)):List ByteArray :=
  parents.foldl (fun M p=>marksF M (matchS result p)) (⟨#[32]⟩ :: List.replicate result.length ByteArray.empty)
def lostFrom (N:Nat) (result:List ByteArray):List (List ByteArray)→Nat→(Nat→Option (List (List ByteArray)))→Nat→Option (List (List ByteArray))
  | [],_,lost=>lost
  | p :: ps,col,lost=>lostFrom N result ps (col+1) (pairGo N col p (matchS result p) 0 0 0 lost)
def lostAll (result:List ByteArray) (parents:List (List ByteArray)):Nat→Option (List (List ByteArray)):=lostFrom parents.length result parents 0 (fun _=>none)
def tableRows (result:List ByteArray) (parents:List (List ByteArray)):Nat→List S57
  | 0=>[]
  | k+1=>tableRows result parents k ++ lostRows (lostAll result parents k) ++ [⟨(marksAll result parents).getD (k+1) ByteArray.empty,result.getD k ByteArray.empty⟩]
def tableAll (result:List ByteArray) (parents:List (List ByteArray)):List S57:=tableRows result parents result.length ++ lostRows (lostAll result parents result.length)
def tableF (result:List ByteArray) (parents:List (List ByteArray)):List S57 × Int :=
  if wrongF mayL (result :: parents)≠0 then ([],wrongF mayL (result :: parents)) else (tableAll result parents,0)
def tableOk (result:List ByteArray) (parents:List (List ByteArray)):Bool :=
  decide (result.length≤1000000∧parents.length≤1000 ∧ ∀ l ∈ result :: parents,l.length≤1000000 ∧ ∀ s ∈ l,s.size≤1000000000) &&
    (decide (wrongF mayL (result :: parents)≠0) || decide (result.length+sumLen parents≤2000))
theorem marksF_length {M:List ByteArray} {ms:List Int} (h:M.length=ms.length+1):(marksF M ms).length=M.length:=by
 (simp[marksF];omega)
theorem marksF_get {M:List ByteArray} {ms:List Int} (n:Nat) (h:M.length=ms.length+1) (h0:(M.getD 0 ByteArray.empty).size=n+1) (hr : ∀ i,1≤i→i < M.length→(M.getD i ByteArray.empty).size=n) :
    ((marksF M ms).getD 0 ByteArray.empty).size=n+2 ∧ ∀ i,1≤i→i < M.length→((marksF M ms).getD i ByteArray.empty).size=n+1:=by
 refine⟨?_,fun i h1 h2=>?_⟩;(· show (M.getD 0 ByteArray.empty ++ ⟨#[32]⟩).size=_;(rw[ByteArray.size_append,h0];rfl))
 ·
  obtain⟨j,rfl⟩ : ∃ j,i=j+1:=⟨i - 1,by omega⟩;(have hj:j < ms.length:=by omega)
  have e:(marksF M ms).getD (j+1) ByteArray.empty=M.getD (j+1) ByteArray.empty ++ markS ms[j]:=by
   have hlen:=marksF_length h;rw[show (marksF M ms).getD (j+1) ByteArray.empty=(marksF M ms)[j+1]'(by omega) by simp[show j+1 < (marksF M ms).length by omega]];simp only[marksF,List.getElem_cons_succ,List.getElem_zipWith,List.getElem_tail];rw[show M.getD (j+1) ByteArray.empty=M[j+1] by simp[h2]]
  rw[e,ByteArray.size_append,hr (j+1) (by omega) h2];(unfold markS;split <;> rfl)
theorem lostFrom_snoc (N:Nat) (result:List ByteArray) : ∀ (ps:List (List ByteArray)) (p:List ByteArray) (col:Nat) (lost:Nat→Option (List (List ByteArray))),lostFrom N result (ps ++ [p]) col lost=pairGo N (col+ps.length) p (matchS result p) 0 0 0 (lostFrom N result ps col lost)
 | [],p,col,lost=>rfl
 | x :: ps,p,col,lost=>by
  rw[List.cons_append,lostFrom,lostFrom,lostFrom_snoc N result ps p (col+1) _,List.length_cons,show col+1+ps.length=col+(ps.length+1) by omega]
def marksK (result:List ByteArray) (parents:List (List ByteArray)) (k:Nat):List ByteArray:=marksAll result (parents.take k)
theorem marksK_succ (result:List ByteArray) (parents:List (List ByteArray)) {k:Nat} (h:k < parents.length):marksK result parents (k+1)=marksF (marksK result parents k) (matchS result (parents.getD k [])):=by
 rw[marksK,marksK,marksAll,marksAll,← List.take_append_getElem h,List.foldl_append,show parents.getD k []=parents[k] by simp[h]];rfl
theorem marksK_ok (result:List ByteArray) (parents:List (List ByteArray)) : ∀ k,k≤parents.length→(marksK result parents k).length=result.length+1∧((marksK result parents k).getD 0 ByteArray.empty).size=k+1 ∧ ∀ i,1≤i→i < result.length+1→((marksK result parents k).getD i ByteArray.empty).size=k
 | 0,_=>by
  refine⟨by simp[marksK,marksAll],rfl,fun i h1 h2=>?_⟩;obtain⟨j,rfl⟩ : ∃ j,i=j+1:=⟨i - 1,by omega⟩;show ((⟨#[32]⟩ :: List.replicate result.length ByteArray.empty).getD (j+1) ByteArray.empty).size=0;rw[List.getD_cons_succ];simp[List.getD_eq_getElem?_getD,List.getElem?_replicate,show j < result.length by omega]
 | k+1,hk=>by
  obtain⟨h1,h2,h3⟩:=marksK_ok result parents k (by omega);(have hl:(marksK result parents k).length=(matchS result (parents.getD k [])).length+1:=by rw[h1,matchS_length]);rw[marksK_succ _ _ (by omega)];obtain⟨g1,g2⟩:=marksF_get k hl h2 (fun i a b=>h3 i a (by omega));exact⟨by rw[marksF_length hl,h1],g1,fun i a b=>g2 i a (by omega)⟩
def lostK (result:List ByteArray) (parents:List (List ByteArray)) (k:Nat):Nat→Option (List (List ByteArray)):=lostFrom parents.length result (parents.take k) 0 (fun _=>none)
theorem lostK_succ (result:List ByteArray) (parents:List (List ByteArray)) {k:Nat} (h:k < parents.length):lostK result parents (k+1)=pairGo parents.length k (parents.getD k []) (matchS result (parents.getD k [])) 0 0 0 (lostK result parents k):=by
 rw[lostK,lostK,← List.take_append_getElem h,lostFrom_snoc,List.length_take_of_le (by omega),Nat.zero_add,show parents.getD k []=parents[k] by simp[h]]
end Table_sec
section TabRows_sec
open Go.RowKit Go.Proofs.YthcnfflhejogfaaDoorW.PrintWords Go.Proofs.YthcnfflhejogfaaDoorW.PrintLast Go.Proofs.YthcnfflhejogfaaDoorW.PrintMore
theorem index45_cases (u:List UInt8):(¬ (45:UInt8) ∈ u∧Lib.indexByte u 45 = -1)∨((45:UInt8) ∈ u∧0≤Lib.indexByte u 45):=by
 induction u with
 | nil=>left;simp[Lib.indexByte]
 | cons x xs ih =>
  simp only[Lib.indexByte,List.mem_cons]
  by_cases e:x=45
  (· (right;simp[e]))
  ·
   (have e':(x == 45)=false:=by simp[e]);(have e2 : ¬ (45:UInt8)=x:=fun h=>e h.symm);rw[e']
   rcases ih with ⟨h1,h2⟩|⟨h1,h2⟩
   (· (left;simp[h1,h2,e2]));(· right;refine⟨.inr h1,?_⟩;rw[if_neg (by decide),if_neg (by simp;omega)];omega)
theorem index45 (u:List UInt8):decide (0≤Lib.indexByte u 45)=decide ((45:UInt8) ∈ u):=by
 rw[decide_eq_decide]
 rcases index45_cases u with ⟨h1,h2⟩|⟨h1,h2⟩
 (· simp[h1,h2]);(· simp[h1,h2])
theorem byte45 (c:UInt8):((c.toNat:Int)=45)↔c=45:=by
 constructor;(· intro h;(have:c.toNat=45:=by omega);exact UInt8.toNat_inj.1 this);(· (rintro rfl;rfl))
theorem lostB_mem (s:ByteArray):lostB s=decide ((45:UInt8) ∈ s.data.toList):=index45 _
section
variable {R:List ApiRow}
end
end TabRows_sec
section TabMath_sec
open Go.RowKit Go.Proofs.YthcnfflhejogfaaDoorW.PrintWords Go.Proofs.YthcnfflhejogfaaDoorW.PrintLast Go.Proofs.YthcnfflhejogfaaDoorW.PrintMore
def nextM:List Int→Nat→Nat
  | [],n=>n
  | m :: t,n=>if 0≤m then m.toNat else nextM t n
def fromM (ms:List Int):Nat→Option Nat
  | 0=>some 0
  | q+1=>if 0≤ms.getD q (-1) then some ((ms.getD q (-1)).toNat+1) else none
def segL (p:List ByteArray) (ms:List Int) (q:Nat):List ByteArray :=
  match fromM ms q with
  | none=>[]
  | some a=>(p.take (nextM (ms.drop q) p.length)).drop a
def updSeg (N col:Nat) (p:List ByteArray) (ms:List Int) (lost:Nat→Option (List (List ByteArray))) (q:Nat):Option (List (List ByteArray)) :=
  if segL p ms q=[] then lost q else some (((lost q).getD (List.replicate N [])).set col (segL p ms q))
theorem Fits.next {list:List ByteArray} : ∀ {ms:List Int} {ss:List ByteArray} {lo:Nat},Fits list ms ss lo→lo≤nextM ms list.length∧nextM ms list.length≤list.length
 | [],[],lo,h=>⟨h,Nat.le_refl _⟩
 | [],_ :: _,lo,h=>h.elim
 | m :: ms,s :: ss,lo,h=>by
  rcases h with ⟨rfl,h⟩|⟨k,rfl,h1,h2,h3⟩
  (· (rw[nextM,if_neg (by decide)];exact h.next));(· have:=(List.getElem?_eq_some_iff.1 h2).1;(rw[nextM,if_pos (by omega),Int.toNat_natCast];omega))
 | _ :: _,[],lo,h=>h.elim
theorem Fits.at_ {list:List ByteArray} : ∀ {ms:List Int} {ss:List ByteArray} {lo:Nat},Fits list ms ss lo → ∀ q,q < ms.length→(ms.getD q (-1) = -1) ∨ ∃ k:Nat,ms.getD q (-1)=(k:Int)∧list[k]? = ss[q]? ∧ k < list.length∧k+1≤nextM (ms.drop (q+1)) list.length
 | [],ss,lo,h,q,hq=>absurd hq (by simp)
 | m :: ms,s :: ss,lo,h,0,hq=>by
  rcases h with ⟨rfl,h⟩|⟨k,rfl,h1,h2,h3⟩
  (· exact .inl rfl);(· exact .inr ⟨k,rfl,by rw[h2];rfl,(List.getElem?_eq_some_iff.1 h2).1,h3.next.1⟩)
 | m :: ms,s :: ss,lo,h,q+1,hq=>by
  (have hq':q < ms.length:=by simpa using hq)
  rcases h with ⟨rfl,h⟩|⟨k,rfl,h1,h2,h3⟩
  (· exact h.at_ q hq');(· exact h3.at_ q hq')
 | _ :: _,[],lo,h,q,hq=>h.elim
theorem Fits.drop_next {list:List ByteArray} : ∀ {ms:List Int} {ss:List ByteArray} {lo:Nat},Fits list ms ss lo → ∀ q,nextM (ms.drop q) list.length≤list.length
 | ms,ss,lo,h,0=>h.next.2
 | [],ss,lo,h,q+1=>Nat.le_refl _
 | m :: ms,s :: ss,lo,h,q+1=>by
  rcases h with ⟨rfl,h⟩|⟨k,rfl,h1,h2,h3⟩
  (· exact h.drop_next q);(· exact h3.drop_next q)
 | _ :: _,[],lo,h,q+1=>h.elim
theorem Fits.from_le {list ss:List ByteArray} {ms:List Int} (h:Fits list ms ss 0) {q a:Nat} (e:fromM ms q=some a):a≤nextM (ms.drop q) list.length:=by
 cases q with
 | zero=>obtain rfl:=(Option.some.inj e).symm;exact Nat.zero_le _
 | succ q =>
  (rw[fromM] at e);(split at e)
  ·
   rename_i h0
   have hq:q < ms.length:=by
    apply Classical.byContradiction;intro hn;(rw[List.getD_eq_getElem?_getD,List.getElem?_eq_none (by omega)] at h0);(simp at h0)
   rcases h.at_ q hq with h1|⟨k,h1,_,_,h2⟩
   (· (rw[h1] at h0;omega));(· (rw[h1] at e;have:=Option.some.inj e;simp at this;omega))
  (· cases e)
theorem nextM_skip {ms:List Int} {L:Nat} (last:Nat) : ∀ (n:Nat),last+n≤ms.length→(∀ j,last≤j→j < last+n→ms.getD j (-1) < 0)→nextM (ms.drop last) L=nextM (ms.drop (last+n)) L
 | 0,_,_=>rfl
 | n+1,hl,hn=>by
  rw[nextM_skip last n (by omega) (fun j h1 h2=>hn j h1 (by omega)),dropCons (i:=last+n) (by omega),nextM];have:=hn (last+n) (by omega) (by omega);(rw[show ms.getD (last+n) (-1)=ms[last+n] by simp[List.getD_eq_getElem?_getD,List.getElem?_eq_getElem (show last+n < ms.length by omega)]] at this);(rw[if_neg (by omega)];rfl)
theorem fromM_none {ms:List Int} {last i q:Nat} (h : ∀ j,last≤j→j < i→ms.getD j (-1) < 0) (h1:last < q) (h2:q≤i∨ms.length≤i):fromM ms q=none:=by
 obtain⟨q,rfl⟩ : ∃ q',q=q'+1:=⟨q - 1,by omega⟩;rw[fromM]
 have:ms.getD q (-1) < 0:=by
  by_cases hq:q < i
  (· exact h q (by omega) hq);(· (rw[List.getD_eq_getElem?_getD,List.getElem?_eq_none (by omega)];decide))
 rw[if_neg (by omega)]
theorem segL_none {p:List ByteArray} {ms:List Int} {q:Nat} (h:fromM ms q=none):segL p ms q=[]:=by rw[segL,h]
theorem loseAt_eq {N col:Nat} {p:List ByteArray} {ms:List Int} {lost:Nat→Option (List (List ByteArray))} {at_ last:Nat} (hF:nextM (ms.drop last) p.length≤p.length) (ha:fromM ms last=some at_) (q:Nat) :
    loseAt N col p lost (nextM (ms.drop last) p.length) at_ last q=if q=last then updSeg N col p ms lost q else lost q:=by
 (have hs:segL p ms last=(p.take (nextM (ms.drop last) p.length)).drop at_:=by rw[segL,ha])
 by_cases hq:q=last
 ·
  subst hq;rw[if_pos rfl,updSeg,hs,loseAt]
  by_cases h:at_ < nextM (ms.drop q) p.length
  (· (have hne : ¬ (p.take (nextM (ms.drop q) p.length)).drop at_=[]:=by rw[List.drop_eq_nil_iff,List.length_take];omega);rw[if_pos h,if_neg hne];exact if_pos rfl);(· rw[if_neg h,if_pos (List.drop_eq_nil_iff.2 (by simp;omega))])
 ·
  rw[if_neg hq,loseAt];split;(· simp[hq]);(· rfl)
theorem pairGo_eq {N col:Nat} {p ss:List ByteArray} {ms:List Int} (hF:Fits p ms ss 0) : ∀ (t:List Int) (i at_ last:Nat) (lost:Nat→Option (List (List ByteArray))),ms.drop i=t→last≤i→i≤ms.length→fromM ms last=some at_→(∀ j,last≤j→j < i→ms.getD j (-1) < 0) →
    ∀ q,pairGo N col p t i at_ last lost q=if q < last then lost q else updSeg N col p ms lost q
  | [],i,at_,last,lost,hd,hli,hi,ha,hn,q=>by
    have hlen:ms.length≤i:=List.drop_eq_nil_iff.1 hd
    have hnx:nextM (ms.drop last) p.length=p.length:=by
      rw[nextM_skip last (i - last) (by omega) (fun j a b=>hn j a (by omega)),show last+(i - last)=i by omega,hd];rfl
    have:=loseAt_eq (N:=N) (col:=col) (lost:=lost) (by rw[hnx];exact Nat.le_refl _) ha q
    rw[hnx] at this
    rw[pairGo,this]
    by_cases h1:q < last
    · rw[if_neg (by omega),if_pos h1]
    · rw[if_neg h1]
      by_cases h2:q=last
      · rw[if_pos h2]
      · rw[if_neg h2,updSeg,if_pos (segL_none (fromM_none hn (by omega) (.inr hlen)))]
  | m :: t,i,at_,last,lost,hd,hli,hi,ha,hn,q=>by
    have hil:i < ms.length:=by
      apply Classical.byContradiction
      intro h
      rw[List.drop_of_length_le (by omega)] at hd
      cases hd
    rw[dropCons hil] at hd
    have hm:ms[i]=m:=(List.cons.inj hd).1
    have ht:ms.drop (i+1)=t:=(List.cons.inj hd).2
    have hg:ms.getD i (-1)=m:=by rw[← hm];simp[List.getD_eq_getElem?_getD,List.getElem?_eq_getElem hil]
    rw[pairGo]
    by_cases h0:0≤m
    · rw[if_pos h0,pairGo_eq hF t (i+1) (m.toNat+1) (i+1) _ ht (Nat.le_refl _) hil (by rw[fromM,hg,if_pos h0]) (fun j a b=>by omega) q]
      have hnx:nextM (ms.drop last) p.length=m.toNat:=by
        rw[nextM_skip last (i - last) (by omega) (fun j a b=>hn j a (by omega)),show last+(i - last)=i by omega,dropCons hil,nextM,hm,if_pos h0]
      have:=loseAt_eq (N:=N) (col:=col) (lost:=lost) (hF.drop_next last) ha
      rw[hnx] at this
      by_cases h1:q < last
      · rw[if_pos (by omega),if_pos h1,this q,if_neg (by omega)]
      · rw[if_neg h1]
        by_cases h2:q=last
        · rw[if_pos (by omega),this q,if_pos h2]
        · by_cases h3:q < i+1
          · rw[if_pos h3,this q,if_neg h2,updSeg,if_pos (segL_none (fromM_none hn (by omega) (.inl (by omega))))]
          · rw[if_neg h3,updSeg,updSeg,this q,if_neg h2]
    · rw[if_neg h0,pairGo_eq hF t (i+1) at_ last lost ht (by omega) hil ha (fun j a b=>by
        by_cases hj:j=i
        · subst hj;rw[hg];omega
        · exact hn j a (by omega)) q]
def segsL (result:List ByteArray) (ps:List (List ByteArray)) (q:Nat):List (List ByteArray):=ps.map (fun p=>segL p (matchS result p) q)
theorem segsL_length (result:List ByteArray) (ps:List (List ByteArray)) (q:Nat):(segsL result ps q).length=ps.length:=List.length_map ..
theorem empties {ls:List (List ByteArray)} (h:ls.all (·.isEmpty)=true):ls=List.replicate ls.length []:=by
 induction ls with
 | nil=>rfl
 | cons l t ih =>
  (simp only[List.all_cons,Bool.and_eq_true,List.isEmpty_iff] at h);rw[List.length_cons,List.replicate_succ,h.1,← ih h.2]
theorem lostK_eq (result:List ByteArray) (parents:List (List ByteArray)) (q:Nat) : ∀ k,k≤parents.length→lostK result parents k q=if (segsL result (parents.take k) q).all (·.isEmpty)=true then none else some (segsL result (parents.take k) q ++ List.replicate (parents.length - k) [])
 | 0,_=>by
  (rw[List.take_zero];rfl)
 | k+1,hk=>by
  (have hkl:k < parents.length:=by omega);have ih:=lostK_eq result parents q k (by omega);have hpg:pairGo parents.length k (parents.getD k []) (matchS result (parents.getD k [])) 0 0 0 (lostK result parents k) q=_:=pairGo_eq (matchS_fits result _) _ 0 0 0 _ rfl (Nat.le_refl _) (Nat.zero_le _) rfl (fun j a b=>by omega) q;rw[lostK_succ _ _ hkl,hpg,if_neg (by omega),updSeg];(have hp:parents.getD k []=parents[k]:=by simp[hkl])
  have hs:segsL result (parents.take (k+1)) q=segsL result (parents.take k) q ++ [segL (parents.getD k []) (matchS result (parents.getD k [])) q]:=by
   (rw[← List.take_append_getElem hkl,segsL,List.map_append,hp];rfl)
  rw[hs];obtain⟨S,hS⟩ : ∃ S,segsL result (parents.take k) q=S:=⟨_,rfl⟩;obtain⟨s,hs1⟩ : ∃ s,segL (parents.getD k []) (matchS result (parents.getD k [])) q=s:=⟨_,rfl⟩;(have hSl:S.length=k:=by rw[← hS,segsL_length,List.length_take];omega);(rw[hS] at ih);rw[hS,hs1]
  have hrep:List.replicate (parents.length - k) ([]:List ByteArray)=[] :: List.replicate (parents.length - (k+1)) []:=by
   rw[show parents.length - k=(parents.length - (k+1))+1 by omega,List.replicate_succ]
  by_cases e:s=[]
  (· subst e;rw[if_pos rfl,ih,List.all_append];have:([[]]:List (List ByteArray)).all (·.isEmpty)=true:=rfl;rw[this,Bool.and_true,hrep];simp)
  ·
   have hne:(S ++ [s]).all (·.isEmpty)=false:=by
    rw[List.all_append]
    have:([s]:List (List ByteArray)).all (·.isEmpty)=false:=by
     cases s with
     | nil=>exact absurd rfl e
     | cons a b=>rfl
    rw[this,Bool.and_false]
   rw[if_neg e,hne,if_neg (by decide)]
   have hget:(lostK result parents k q).getD (List.replicate parents.length [])=S ++ List.replicate (parents.length - k) []:=by
    rw[ih]
    by_cases ha:S.all (·.isEmpty)=true
    ·
     rw[if_pos ha,Option.getD_none];have:=empties ha;(rw[hSl] at this);rw[this,List.replicate_append_replicate]
     congr 1;omega
    (· (rw[if_neg ha];rfl))
   (rw[hget,hrep,List.set_append,if_neg (by omega),hSl,Nat.sub_self,List.set_cons_zero,List.append_assoc];rfl)
theorem lostAll_eq (result:List ByteArray) (parents:List (List ByteArray)) (q:Nat):lostAll result parents q=if (segsL result parents q).all (·.isEmpty)=true then none else some (segsL result parents q):=by
 have:=lostK_eq result parents q parents.length (Nat.le_refl _);(rw[List.take_length,Nat.sub_self,List.replicate_zero,List.append_nil,lostK,List.take_length] at this);exact this
theorem rowsOf_empties {ls:List (List ByteArray)} (h:ls.all (·.isEmpty)=true):rowsOf ls=[]:=by
 have h1:=rowsOf_le ls
 have h2:sumLen ls=0:=by
  (rw[empties h];simp[sumLen])
 (rw[h2] at h1);exact List.length_eq_zero_iff.1 (by omega)
theorem lostRows_eq (result:List ByteArray) (parents:List (List ByteArray)) (q:Nat):lostRows (lostAll result parents q)=(rowsOf (segsL result parents q)).map (rowOut parents.length):=by
 rw[lostAll_eq]
 by_cases h:(segsL result parents q).all (·.isEmpty)=true
 (· (rw[if_pos h,lostRows,rowsOf_empties h];rfl));(· rw[if_neg h,lostRows,segsL_length])
def marksU (result:List ByteArray) (ps:List (List ByteArray)) (k:Nat):List UInt8:=ps.map (fun p=>if 0≤(matchS result p).getD k 0 then 32 else 43)
theorem markS_bs (m:Int):markS m=bs [if 0≤m then 32 else 43]:=by
 unfold markS;(split <;> rfl)
theorem marksK_eq (result:List ByteArray) (parents:List (List ByteArray)) (q:Nat) (hq:q < result.length) : ∀ k,k≤parents.length→(marksK result parents k).getD (q+1) ByteArray.empty=bs (marksU result (parents.take k) q)
 | 0,_=>by
  show ((⟨#[32]⟩ :: List.replicate result.length ByteArray.empty).getD (q+1) ByteArray.empty)=_;rw[List.getD_cons_succ];simp[List.getD_eq_getElem?_getD,List.getElem?_replicate,hq,marksU];rfl
 | k+1,hk=>by
  (have hkl:k < parents.length:=by omega);(have hp:parents.getD k []=parents[k]:=by simp[hkl]);have hM:=(marksK_ok result parents k (by omega)).1;have ih:=marksK_eq result parents q hq k (by omega);rw[marksK_succ _ _ hkl,marksF,List.getD_cons_succ];have hml:=matchS_length result (parents.getD k []);(have h1:q < (marksK result parents k).tail.length:=by simp[hM];exact hq);(have h2:q < (matchS result (parents.getD k [])).length:=by rw[hml];exact hq)
  have h3:(marksK result parents k).tail[q]=(marksK result parents k).getD (q+1) ByteArray.empty:=by
   (rw[List.getElem_tail];simp[List.getD_eq_getElem?_getD,List.getElem?_eq_getElem (show q+1 < (marksK result parents k).length by omega)])
  (have h4:(matchS result (parents.getD k [])).getD q 0=(matchS result (parents.getD k []))[q]:=by rw[List.getD_eq_getElem?_getD,List.getElem?_eq_getElem h2];rfl);rw[List.getD_eq_getElem?_getD,List.getElem?_zipWith,List.getElem?_eq_getElem h1,List.getElem?_eq_getElem h2];show (marksK result parents k).tail[q] ++ markS (matchS result (parents.getD k []))[q]=_;(rw[h3,ih,markS_bs,bs_append,← List.take_append_getElem hkl,marksU,marksU,List.map_append,← hp,← h4];rfl)
theorem marksAll_eq (result:List ByteArray) (parents:List (List ByteArray)) (q:Nat) (hq:q < result.length):(marksAll result parents).getD (q+1) ByteArray.empty=bs (marksU result parents q):=by
 have:=marksK_eq result parents q hq parents.length (Nat.le_refl _)
 rwa [marksK,List.take_length] at this
def segRows (result:List ByteArray) (parents:List (List ByteArray)) (q:Nat):List ApiRow:=(rowsOf (segsL result parents q)).map (rowOut parents.length)
theorem tableRows_succ (result:List ByteArray) (parents:List (List ByteArray)) (k:Nat) (hk:k < result.length):tableRows result parents (k+1)=tableRows result parents k ++ segRows result parents k ++ [⟨bs (marksU result parents k),result[k]⟩]:=by
 (rw[tableRows,lostRows_eq,marksAll_eq _ _ _ hk,show result.getD k ByteArray.empty=result[k] by simp[hk]];rfl)
theorem tableAll_eq (result:List ByteArray) (parents:List (List ByteArray)):tableAll result parents=tableRows result parents result.length ++ segRows result parents result.length:=by
 (rw[tableAll,lostRows_eq];rfl)
theorem segL_length_le (p:List ByteArray) (ms:List Int) (q:Nat):(segL p ms q).length≤p.length:=by
 unfold segL;split;(· simp);(· (simp;omega))
theorem segL_mem {p:List ByteArray} {ms:List Int} {q:Nat} {s:ByteArray} (h:s ∈ segL p ms q):s ∈ p:=by
 (unfold segL at h);(split at h);(· cases h);(· exact List.mem_of_mem_take (List.mem_of_mem_drop h))
end TabMath_sec
section TabTells_sec
open Go.RowKit Go.Proofs.YthcnfflhejogfaaDoorW.PrintWords Go.Proofs.YthcnfflhejogfaaDoorW.PrintLast Go.Proofs.YthcnfflhejogfaaDoorW.PrintMore
def FewT (result:List ByteArray) (ls:List (List ByteArray)):Prop:=(result.length≤16 ∧ ∀ s ∈ result,s.size≤100)∧ls.length≤6 ∧ ∀ l ∈ ls,l.length≤16 ∧ ∀ s ∈ l,s.size≤100
section
variable {result:List ByteArray} {ls:List (List ByteArray)}
theorem FewT.sum (h:FewT result ls):sumLen ls≤96:=by
 have:=sumLen_take 16 ls ls.length (fun l hl=>(h.2.2 l hl).1);(rw[List.take_length] at this);have:=h.2.1;omega
theorem FewT.ok (h:FewT result ls):tableOk result ls=true:=by
 obtain⟨⟨h1,h2⟩,h3,h4⟩:=h;have h5:sumLen ls≤96:=FewT.sum ⟨⟨h1,h2⟩,h3,h4⟩;rw[tableOk,Bool.and_eq_true,Bool.or_eq_true];refine⟨decide_eq_true ⟨by omega,by omega,?_⟩, .inr (decide_eq_true (by omega))⟩;intro l hl
 rcases List.mem_cons.1 hl with rfl|hl
 (· exact⟨by omega,fun s hs=>by have:=h2 s hs;omega⟩);(· have:=(h4 l hl).1;exact⟨by omega,fun s hs=>by have:=(h4 l hl).2 s hs;omega⟩)
theorem ref_wrong_l0 (h : ∀ l ∈ ls,l.length≤2000 ∧ ∀ s ∈ l,s.size≤1000000) (hn:ls.length≤1000) : ∀ (r i:Nat) (m:Bool),i+r=ls.length→Gives (fun k=>sennitref20_wrong.l0 k ls m false (i:Int)) (if (m && (ls.drop i).all mayL)=true then 0 else 2):=by
 intro r
 induction r with
 | zero =>
  intro i m hi;(refine Gives.of fun k=>?_);show sennitref20_wrong.l0 (k+1) ls m false (i:Int)=_;rw[sennitref20_wrong.l0,if_neg (by omega),List.drop_of_length_le (by omega)];(cases m <;> rfl)
 | succ r ih =>
  intro i m hi;(have hil:i < ls.length:=by omega);have e:rd_L8 ls (i:Int)=ls[i]:=getN hil;have hz:=h ls[i] (List.getElem_mem _);rw[dropCons hil,List.all_cons]
  cases m with
  | true =>
   have hm:=ref_May01 ls[i] (by omega) hz.2;have:=ih (i+1) (mayL ls[i]) (by omega);rw[Bool.true_and];(refine Gives.call hm this fun k hk=>?_);show sennitref20_wrong.l0 (k+1) ls true false (i:Int)=_;rw[sennitref20_wrong.l0,if_pos (by omega),if_pos rfl,if_pos (by omega),e,hk,Option.bind_some,if_neg (by decide),gw1 (by omega),decide_eq_false (by omega)]
  | false =>
   have:=ih (i+1) false (by omega);(refine(this.eq rfl).step fun k=>?_);show sennitref20_wrong.l0 (k+1) ls false false (i:Int)=_;rw[sennitref20_wrong.l0,if_pos (by omega),if_neg (by decide),if_neg (by decide),if_pos (by omega),e,gw1 (by omega),decide_eq_false (by omega)]
theorem ref_wrong20 (h:FewT result ls):Gives (fun k=>sennitref20_wrong.f k result ls) (wrongF mayL (result :: ls)):=by
 obtain⟨⟨h1,h2⟩,h3,h4⟩:=h
 by_cases h0:ls.length=0
 ·
  (have e:wrongF mayL (result :: ls)=1:=by rw[wrongF,if_pos (by simp;omega)]);rw[e];(refine(Gives.of (f:=fun k=>sennitref20_wrong.j0 k result ls true) fun k=>?_).same fun k=>?_);(· show sennitref20_wrong.j0 (k+1) result ls true=_;rw[sennitref20_wrong.j0,if_pos rfl]);(· show sennitref20_wrong.f k result ls=_;rw[sennitref20_wrong.f,if_pos (by omega)])
 ·
  have hl:(result :: ls).any longL=false:=by
   rw[List.any_eq_false];intro l hl
   rcases List.mem_cons.1 hl with rfl|hl
   (· (simp[longL];omega));(· (have:=(h4 l hl).1;simp[longL];omega))
  have e:wrongF mayL (result :: ls)=(if (mayL result && (ls.drop 0).all mayL)=true then 0 else 2):=by
   rw[wrongF,if_neg (by simp;omega),hl,if_neg (show ¬ false=true by decide),List.drop_zero]
   by_cases hm:(mayL result && ls.all mayL)=true
   (· rw[if_pos hm,if_neg];(rw[← List.all_cons (f:=mayL)] at hm);simp only[List.any_eq_true,not_exists,not_and];intro x hx hc;(rw[List.all_eq_true.1 hm x hx] at hc;cases hc))
   ·
    rw[if_neg hm,if_pos];(rw[← List.all_cons (f:=mayL),List.all_eq_true] at hm);rw[List.any_eq_true];apply Classical.byContradiction;intro hc;apply hm;intro x hx
    cases hmx:mayL x with
    | true=>rfl
    | false=>exact absurd ⟨x,hx,by rw[hmx];rfl⟩ hc
  rw[e];have hm:=ref_May01 result (by omega) (fun s hs=>by have:=h2 s hs;omega);have hw:=ref_wrong_l0 (ls:=ls) (fun l hl=>⟨by have:=(h4 l hl).1;omega,fun s hs=>by have:=(h4 l hl).2 s hs;omega⟩) (by omega) ls.length 0 (mayL result) (by omega);(refine(Gives.call hm hw (f:=fun k=>sennitref20_wrong.j0 k result ls false) fun k hk=>?_).same fun k=>?_);(· show sennitref20_wrong.j0 (k+1) result ls false=_;(rw[sennitref20_wrong.j0,if_neg (by decide),hk,Option.bind_some,decide_eq_false (by omega)];rfl));(· show sennitref20_wrong.f k result ls=_;rw[sennitref20_wrong.f,if_neg (by omega),decide_eq_false (by omega)])
end
theorem ref_lost20_l0 {p:List ByteArray} {ms:List Int} {a:Nat} {q:Nat} (hp:p.length≤100000) (hml:ms.length≤100000) (hx : ∀ q,nextM (ms.drop q) p.length≤p.length) (ha:a≤nextM (ms.drop q) p.length) : ∀ (r i:Nat),q+r=i→i≤ms.length →
    Gives (fun k=>sennitref20_lost.l0 k p ms (q:Int) (a:Int) (nextM (ms.drop i) p.length:Int) ((i:Int) - 1)) ((p.take (nextM (ms.drop q) p.length)).drop a):=by
 intro r
 induction r with
 | zero =>
  intro i hi hil;(obtain rfl:q=i:=by omega);have:=hx q;(refine Gives.of fun k=>?_);show sennitref20_lost.l0 (k+1) p ms (q:Int) (a:Int) _ _=_;rw[sennitref20_lost.l0,if_neg (by omega),if_pos (by omega),if_pos (by omega),if_pos (by omega),Int.toNat_natCast,Int.toNat_natCast]
 | succ r ih =>
  intro i hi hil;obtain⟨j,rfl⟩ : ∃ j,i=j+1:=⟨i - 1,by omega⟩;(have hj:j < ms.length:=by omega);(have e:(((j+1:Nat):Int) - 1)=(j:Int):=by omega);have:=ih j (by omega) (by omega);rw[e];(refine this.step fun k=>?_);show sennitref20_lost.l0 (k+1) p ms (q:Int) (a:Int) _ _=_;rw[sennitref20_lost.l0,if_pos (by omega),if_pos (by omega),if_pos (by omega),rdN hj,gw (x:=(j:Int) - 1) (by omega) (by omega)];(have hn:nextM (ms.drop j) p.length=if 0≤ms[j] then ms[j].toNat else nextM (ms.drop (j+1)) p.length:=by rw[dropCons hj,nextM]);rw[hn]
  by_cases h:0≤ms[j]
  (· rw[if_pos h,if_pos h,Int.toNat_of_nonneg h]);(· rw[if_neg h,if_neg h])
theorem ref_lost20 {p ss:List ByteArray} {ms:List Int} (hF:Fits p ms ss 0) (hp:p.length≤100000) (hml:ms.length≤100000) (q:Nat) (hq:q≤ms.length):Gives (fun k=>sennitref20_lost.f k p ms (q:Int)) (segL p ms q):=by
 have hj : ∀ a,fromM ms q=some a→Gives (fun k=>sennitref20_lost.j0 k p ms (q:Int) (a:Int)) (segL p ms q):=fun a ha=>by
  have:=ref_lost20_l0 hp hml hF.drop_next (hF.from_le ha) (ms.length - q) ms.length (by omega) (Nat.le_refl _);(rw[List.drop_of_length_le (Nat.le_refl _)] at this);rw[segL,ha];(refine this.step fun k=>?_);show sennitref20_lost.j0 (k+1) p ms (q:Int) (a:Int)=_;(rw[sennitref20_lost.j0,gw (by omega) (by omega)];rfl)
 cases q with
 | zero =>
  (refine(hj 0 rfl).same fun k=>?_);show sennitref20_lost.f k p ms 0=_;(rw[sennitref20_lost.f,if_neg (by decide)];rfl)
 | succ q =>
  (have hql:q < ms.length:=by omega);(have hg:ms.getD q (-1)=ms[q]:=by rw[List.getD_eq_getElem?_getD,List.getElem?_eq_getElem hql];rfl);(have ew:wrap64 (((q+1:Nat):Int) - 1)=(q:Int):=by rw[gw (by omega) (by omega)];omega)
  rcases hF.at_ q hql with h1|⟨a,h1,_,h3,_⟩
  (· (have hn:fromM ms (q+1)=none:=by rw[fromM,h1,if_neg (by decide)]);rw[segL_none hn];(refine Gives.pure fun k=>?_);show sennitref20_lost.f k p ms ((q+1:Nat):Int)=_;rw[sennitref20_lost.f,if_pos (by omega),ew,if_pos (by omega),if_pos (by omega),rdN hql,← hg,if_pos h1]);(· (have hn:fromM ms (q+1)=some (a+1):=by rw[fromM,h1,if_pos (by omega),Int.toNat_natCast]);(refine(hj (a+1) hn).same fun k=>?_);show sennitref20_lost.f k p ms ((q+1:Nat):Int)=_;rw[sennitref20_lost.f,if_pos (by omega),ew,if_pos (by omega),if_pos (by omega),rdN hql,← hg,if_neg (by omega),h1,gw1 (by omega)])
section
variable {result:List ByteArray} {ls:List (List ByteArray)}
theorem FewT.segs (h:FewT result ls) (q:Nat):(segsL result ls q).length≤6 ∧ ∀ l ∈ segsL result ls q,l.length≤20 ∧ ∀ s ∈ l,s.size≤100:=by
 refine⟨by rw[segsL_length];exact h.2.1,fun l hl=>?_⟩;obtain⟨p,hp,rfl⟩:=List.mem_map.1 hl;have h4:=h.2.2 p hp;have:=segL_length_le p (matchS result p) q;exact⟨by omega,fun s hs=>h4.2 s (segL_mem hs)⟩
theorem ref_ahead20 (h:FewT result ls) (q:Nat) (hq:q≤result.length):Gives (fun k=>sennitref20_ahead.f k ls (ls.map (matchS result)) (q:Int)) (segRows result ls q,0):=by
 have hl : ∀ (r i:Nat),i+r=ls.length→Gives (fun k=>sennitref20_ahead.l0 k ls (ls.map (matchS result)) (q:Int) (segsL result (ls.take i) q) (i:Int)) (segRows result ls q,0):=by
  intro r
  induction r with
  | zero =>
   intro i hi;have hs:=h.segs q;have:=ref_Coalesce (segsL result ls q) (few_small hs.1 hs.2);(rw[segsL_length] at this);(refine Gives.last this fun k hk=>?_);show sennitref20_ahead.l0 (k+1) ls _ (q:Int) _ (i:Int)=_;(rw[List.take_of_length_le (by omega),sennitref20_ahead.l0,if_neg (by omega),hk,Option.bind_some];rfl)
  | succ r ih =>
   intro i hi;(have hil:i < ls.length:=by omega);have e:rd_L8 ls (i:Int)=ls[i]:=getN hil
   have e2:rd_L13 (ls.map (matchS result)) (i:Int)=matchS result ls[i]:=by
    have:rd_L13 (ls.map (matchS result)) (i:Int)=(ls.map (matchS result))[i]'(by simpa using hil):=getN (by simpa using hil);rw[this,List.getElem_map]
   have hp:=h.2.2 ls[i] (List.getElem_mem _);have hr:=h.1.1;have hlost:=ref_lost20 (matchS_fits result ls[i]) (by omega) (by rw[matchS_length];omega) q (by rw[matchS_length];exact hq)
   have hs:segsL result (ls.take (i+1)) q=segsL result (ls.take i) q ++ [segL ls[i] (matchS result ls[i]) q]:=by
    (rw[← List.take_append_getElem hil,segsL,List.map_append];rfl)
   (have hlen:(segsL result (ls.take i) q).length≤6:=by rw[segsL_length,List.length_take];have:=h.2.1;omega);have:=ih (i+1) (by omega);(rw[hs] at this);(refine Gives.call hlost this fun k hk=>?_);show sennitref20_ahead.l0 (k+1) ls _ (q:Int) _ (i:Int)=_;have h6:=h.2.1;rw[sennitref20_ahead.l0,if_pos (by omega),if_pos (by omega),if_pos (by rw[List.length_map];omega),e,e2,hk,Option.bind_some,if_pos (by omega),gw1 (by omega)]
 (exact(hl ls.length 0 (by omega)).same fun k=>rfl)
theorem segRows_len (result:List ByteArray) (ls:List (List ByteArray)) (q:Nat):(segRows result ls q).length≤sumLen ls:=by
 rw[segRows,List.length_map];refine Nat.le_trans (rowsOf_le _) ?_;rw[segsL,sumLen,sumLen,List.map_map]
 induction ls with
 | nil=>simp
 | cons p t ih =>
  simp only[List.map_cons,List.sum_cons,Function.comp_apply];have:=segL_length_le p (matchS result p) q;have:=ih;(simp only[Function.comp_def] at this ⊢);omega
theorem tableRows_len (result:List ByteArray) (ls:List (List ByteArray)) : ∀ q,q≤result.length→(tableRows result ls q).length≤q * (sumLen ls+1)
 | 0,_=>by simp[tableRows]
 | q+1,h=>by
  have:=tableRows_len result ls q (by omega);have h2:=segRows_len result ls q;rw[tableRows_succ _ _ _ h,List.length_append,List.length_append,List.length_singleton,Nat.succ_mul];omega
theorem FewT.rows (h:FewT result ls) {q:Nat} (hq:q≤result.length):(tableRows result ls q).length≤2000:=by
 have h1:=tableRows_len result ls q hq;have h2:=h.sum;have h3:=h.1.1;have:q * (sumLen ls+1)≤16 * 97:=Nat.mul_le_mul (by omega) (by omega);omega
theorem FewT.all (h:FewT result ls):(tableAll result ls).length≤3000:=by
 rw[tableAll_eq,List.length_append];have:=h.rows (Nat.le_refl _);have:=segRows_len result ls result.length;have:=h.sum;omega
theorem ref_Table_l2 (h:FewT result ls) (q:Nat) (hq:q < result.length) (rows:List ApiRow) (hrows:rows.length≤3000) {R:List ApiRow × Int}
    (hR:Gives (fun k=>sennitref20_Table.l1 k result ls (ls.map (matchS result)) (rows ++ [⟨bs (marksU result ls q),result[q]⟩]) ((q+1:Nat):Int)) R) : ∀ (r i:Nat),i+r=ls.length →
    Gives (fun k=>sennitref20_Table.l2 k result ls (ls.map (matchS result)) rows (q:Int) (bs (marksU result (ls.take i) q)) (i:Int)) R:=by
 have h6:=h.2.1;have h16:=h.1.1;intro r
 induction r with
 | zero =>
  intro i hi;(refine hR.step fun k=>?_);show sennitref20_Table.l2 (k+1) result ls _ rows (q:Int) _ (i:Int)=_;rw[List.take_of_length_le (by omega),sennitref20_Table.l2,if_neg (by omega),if_pos (by omega),if_pos (by omega),if_pos (by omega),rdOfN hq,gw1 (by omega)]
 | succ r ih =>
  intro i hi;(have hil:i < ls.length:=by omega);(have hql:q < (matchS result ls[i]).length:=by rw[matchS_length];exact hq)
  have e2:rd_L13 (ls.map (matchS result)) (i:Int)=matchS result ls[i]:=by
   have:rd_L13 (ls.map (matchS result)) (i:Int)=(ls.map (matchS result))[i]'(by simpa using hil):=getN (by simpa using hil);rw[this,List.getElem_map]
  (have hg:(matchS result ls[i]).getD q 0=(matchS result ls[i])[q]:=by rw[List.getD_eq_getElem?_getD,List.getElem?_eq_getElem hql];rfl)
  have hs:marksU result (ls.take (i+1)) q=marksU result (ls.take i) q ++ [if 0≤(matchS result ls[i])[q] then 32 else 43]:=by
   (rw[← List.take_append_getElem hil,marksU,List.map_append,← hg];rfl)
  (have hz:(bs (marksU result (ls.take i) q)).size≤6:=by rw[bs_size,marksU,List.length_map,List.length_take];omega);have:=ih (i+1) (by omega);(rw[hs,← bs_append] at this);(refine this.step fun k=>?_);show sennitref20_Table.l2 (k+1) result ls _ rows (q:Int) _ (i:Int)=_;rw[sennitref20_Table.l2,if_pos (by omega),if_pos (by omega),if_pos (by rw[List.length_map];omega),if_pos (by omega),e2,if_pos (by omega),rdN hql,gw1 (by omega)]
  by_cases hm:0≤(matchS result ls[i])[q]
  (· rw[if_pos hm,if_pos (by omega)];(first|rfl|(rw[if_pos hm];rfl)));(· rw[if_neg hm,if_pos (by omega)];(first|rfl|(rw[if_neg hm];rfl)))
theorem ref_Table_l1 (h:FewT result ls) : ∀ (r q:Nat),q+r=result.length→Gives (fun k=>sennitref20_Table.l1 k result ls (ls.map (matchS result)) (tableRows result ls q) (q:Int)) (tableAll result ls,0):=by
 have h16:=h.1.1;have h96:=h.sum;intro r
 induction r with
 | zero =>
  intro q hq;(obtain rfl:q=result.length:=by omega);have ha:=ref_ahead20 h result.length (Nat.le_refl _);have h1:=h.rows (Nat.le_refl _);have h2:=segRows_len result ls result.length;(refine Gives.last ha fun k hk=>?_);show sennitref20_Table.l1 (k+1) result ls _ _ (result.length:Int)=_;rw[sennitref20_Table.l1,if_pos (by omega),hk,Option.bind_some,if_pos rfl,if_pos (by simp only;omega),Option.bind_some,if_pos rfl,tableAll_eq]
 | succ r ih =>
  intro q hq;(have hql:q < result.length:=by omega);have ha:=ref_ahead20 h q (by omega);have h1:=h.rows (q:=q) (by omega);have h2:=segRows_len result ls q;have hn:=ih (q+1) (by omega);(rw[tableRows_succ _ _ _ hql] at hn);have h3:=ref_Table_l2 h q hql (tableRows result ls q ++ segRows result ls q) (by rw[List.length_append];omega) hn ls.length 0 (by omega);(refine Gives.call ha h3 fun k hk=>?_);show sennitref20_Table.l1 (k+1) result ls _ _ (q:Int)=_;(rw[sennitref20_Table.l1,if_pos (by omega),hk,Option.bind_some,if_pos rfl,if_pos (by simp only;omega),Option.bind_some,if_neg (by omega)];rfl)
theorem ref_Table_l0 (h:FewT result ls) : ∀ (r i:Nat),i+r=ls.length→Gives (fun k=>sennitref20_Table.l0 k result ls (idsAll (result :: ls)) ((ls.take i).map (matchS result)) (i:Int)) (tableAll result ls,0):=by
 have h6:=h.2.1;have h16:=h.1.1;(have hlen:(idsAll (result :: ls)).length=ls.length+1:=by rw[idsAll_map,List.length_map,List.length_cons])
 have hget : ∀ (j:Nat) (hj:j < (result :: ls).length),rd_L13 (idsAll (result :: ls)) (j:Int)=((result :: ls)[j]).map (num (tabOf [] (result :: ls))):=fun j hj=>by
  (have hj':j < (idsAll (result :: ls)).length:=by rw[hlen];simpa using hj);have:rd_L13 (idsAll (result :: ls)) (j:Int)=(idsAll (result :: ls))[j]:=getN hj';rw[this];simp only[idsAll_map,List.getElem_map]
 intro r
 induction r with
 | zero =>
  intro i hi;have:=ref_Table_l1 h result.length 0 (by omega);(refine this.step fun k=>?_);show sennitref20_Table.l0 (k+1) result ls _ _ (i:Int)=_;(rw[List.take_of_length_le (by omega),sennitref20_Table.l0,if_neg (by omega)];rfl)
 | succ r ih =>
  intro i hi;(have hil:i < ls.length:=by omega);have g0:=hget 0 (by simp);have g1:=hget (i+1) (by simp;omega);have hp:=h.2.2 ls[i] (List.getElem_mem _);have hm:=match_gives (a:=result.map (num (tabOf [] (result :: ls)))) (b:=ls[i].map (num (tabOf [] (result :: ls)))) (by rw[List.length_map];omega) (by rw[List.length_map];omega);(rw[matchS_num (fun x hx=>tabAll (List.mem_cons_self ..) hx)] at hm)
  have hs:(ls.take (i+1)).map (matchS result)=(ls.take i).map (matchS result) ++ [matchS result ls[i]]:=by
   (rw[← List.take_append_getElem hil,List.map_append];rfl)
  have:=ih (i+1) (by omega);(rw[hs] at this);(refine Gives.call hm this fun k hk=>?_);show sennitref20_Table.l0 (k+1) result ls _ _ (i:Int)=_;have e0:rd_L13 (idsAll (result :: ls)) 0=result.map (num (tabOf [] (result :: ls))):=g0;have e1:rd_L13 (idsAll (result :: ls)) ((i+1:Nat):Int)=ls[i].map (num (tabOf [] (result :: ls))):=g1;rw[sennitref20_Table.l0,if_pos (by omega),if_pos (by rw[hlen];omega),gw1 (by omega),if_pos (by omega),if_pos (by rw[hlen];omega),e0,e1,hk,Option.bind_some,if_pos (by rw[List.length_map,List.length_take];omega)]
theorem ref_Table20 (h:FewT result ls):Gives (fun k=>sennitref20_Table.f k result ls) (tableF result ls):=by
 have hw:=ref_wrong20 h;have h6:=h.2.1;have h16:=h.1.1
 by_cases h0:wrongF mayL (result :: ls)=0
 ·
  have hall:=ref_all (result :: ls) (by simp;omega) (fun l hl=>by
   rcases List.mem_cons.1 hl with rfl|hl
   (· omega)
   ·
    have:=(h.2.2 l hl).1;omega) (by
   have:=h.sum;(simp only[sumLen] at this)
   simp only[List.map_cons,List.sum_cons];omega)
  have ht:=ref_Table_l0 h ls.length 0 (by omega);rw[tableF,if_neg (by simpa using h0)];(refine Gives.call0 hw (Gives.call0 hall ht (f:=fun k=>(sennitref02_All.f k (result :: ls)).bind fun t129=>(sennitref20_Table.l0 k result ls t129 ([]:List (List Int)) 0)) fun k hk=>?_) fun k hk=>?_);(· show Option.bind _ _=_;(rw[hk,Option.bind_some];rfl));(· show sennitref20_Table.f k result ls=_;(rw[sennitref20_Table.f,hk,Option.bind_some,if_pos h0,Option.bind_some,if_pos (by simp;omega)];rfl))
 (· rw[tableF,if_pos h0];(refine Gives.last0 hw fun k hk=>?_);show sennitref20_Table.f k result ls=_;rw[sennitref20_Table.f,hk,Option.bind_some,if_neg h0])
end
end TabTells_sec
section TabCols_sec
open Go.RowKit Go.Proofs.YthcnfflhejogfaaDoorW.PrintWords Go.Proofs.YthcnfflhejogfaaDoorW.PrintLast Go.Proofs.YthcnfflhejogfaaDoorW.PrintMore
theorem byte32 (c:UInt8):((c.toNat:Int)=32)↔c=32:=by
 constructor;(· intro h;(have:c.toNat=32:=by omega);exact UInt8.toNat_inj.1 this);(· (rintro rfl;rfl))
theorem ofB_nat (c:Nat) (s:ByteArray):ofB (c:Int) s=((s.data.toList[c]? == some 45) || ((s.data.toList[c]? == some 32) && !lostB s)):=by
 have hs:=sizeLen s;rw[ofB,decide_eq_true (show (0:Int)≤(c:Int) by omega),Bool.true_and]
 by_cases h:c < s.size
 ·
  (have hc:c < s.data.toList.length:=by omega);rw[decide_eq_true (show (c:Int) < (s.size:Int) by omega),Bool.true_and,btN h,List.getElem?_eq_getElem hc]
  have e1:decide (((s.data.toList[c].toNat:Nat):Int)=45)=(some s.data.toList[c] == some 45):=by
   (rw[Bool.eq_iff_iff,decide_eq_true_eq,byte45];simp)
  have e2:decide (((s.data.toList[c].toNat:Nat):Int)=32)=(some s.data.toList[c] == some 32):=by
   (rw[Bool.eq_iff_iff,decide_eq_true_eq,byte32];simp)
  rw[e1,e2]
 (· (rw[decide_eq_false (show ¬ (c:Int) < (s.size:Int) by omega),List.getElem?_eq_none (by omega)];rfl))
def colF (c:Nat) (R:List ApiRow):List ByteArray:=(R.filter (fun x=>ofB (c:Int) x.f0)).map (·.f1)
def resF (R:List ApiRow):List ByteArray:=(R.filter (fun x => !lostB x.f0)).map (·.f1)
theorem colF_append (c:Nat) (a b:List ApiRow):colF c (a ++ b)=colF c a ++ colF c b:=by simp[colF]
theorem resF_append (a b:List ApiRow):resF (a ++ b)=resF a ++ resF b:=by simp[resF]
section
variable {result:List ByteArray} {ls:List (List ByteArray)}
theorem seg_row (hn:ls.length≤16) (q:Nat) : ∀ x ∈ segRows result ls q,x.f0.size=ls.length∧(∀ c ∈ x.f0.data.toList,c=45∨c=32)∧45 ∈ x.f0.data.toList:=by
 have h:=rowsOf_cols (segsL result ls q) (by rw[segsL_length];exact hn);(rw[segsL_length] at h);exact rowOut_ok hn h
theorem seg_lost (hn:ls.length≤16) (q:Nat) : ∀ x ∈ segRows result ls q,lostB x.f0=true:=fun x hx=>by
  rw[lostB_mem];exact decide_eq_true (seg_row hn q x hx).2.2
theorem line_mem (q:Nat) : ∀ c ∈ marksU result ls q,c=32∨c=43:=by
 intro c hc;obtain⟨p,_,rfl⟩:=List.mem_map.1 hc;split;(· exact .inl rfl);(· exact .inr rfl)
theorem line_lost (q:Nat):lostB (bs (marksU result ls q))=false:=by
 rw[lostB_mem];(refine decide_eq_false fun h=>?_)
 rcases line_mem q 45 (by simpa [bs] using h) with h|h <;> cases h
theorem colF_seg (hn:ls.length≤16) {c:Nat} (hc:c < ls.length) (q:Nat):colF c (segRows result ls q)=segL ls[c] (matchS result ls[c]) q:=by
 have h:=rowsOf_cols (segsL result ls q) (by rw[segsL_length];exact hn);(rw[segsL_length] at h);have h1:=column_colT hn hc _ h;(rw[rowsOf_colT _ (by rw[segsL_length];exact hn) c (by rw[segsL_length];exact hc)] at h1);(have hg:(segsL result ls q).getD c []=segL ls[c] (matchS result ls[c]) q:=by simp[segsL,hc]);(rw[hg] at h1);rw[← h1,colF]
 congr 1
 (refine List.filter_congr fun x hx=>?_);(rw[ofB_nat,seg_lost hn q x hx];simp)
theorem resF_seg (hn:ls.length≤16) (q:Nat):resF (segRows result ls q)=[]:=by
 (rw[resF,List.filter_eq_nil_iff.2 (fun x hx=>by rw[seg_lost hn q x hx];decide)];rfl)
theorem resF_line (q:Nat) (s:ByteArray):resF [⟨bs (marksU result ls q),s⟩]=[s]:=by
 (rw[resF,List.filter_cons_of_pos (by show (!lostB (bs (marksU result ls q)))=true;rw[line_lost];rfl)];rfl)
theorem colF_line {c:Nat} (hc:c < ls.length) (q:Nat) (s:ByteArray):colF c [⟨bs (marksU result ls q),s⟩]=if 0≤(matchS result ls[c]).getD q 0 then [s] else []:=by
 have hg:(bs (marksU result ls q)).data.toList[c]? = some (if 0≤(matchS result ls[c]).getD q 0 then 32 else 43):=by
  show (marksU result ls q).toArray.toList[c]? = _;(rw[marksU,List.toList_toArray,List.getElem?_map,List.getElem?_eq_getElem hc];rfl)
 have ho:ofB (c:Int) (bs (marksU result ls q))=decide (0≤(matchS result ls[c]).getD q 0):=by
  rw[ofB_nat,hg,line_lost];split;(· (rename_i h;rw[decide_eq_true h];rfl));(· (rename_i h;rw[decide_eq_false h];rfl))
 by_cases h:0≤(matchS result ls[c]).getD q 0
 (· (rw[if_pos h,colF,List.filter_cons_of_pos (by show ofB (c:Int) (bs (marksU result ls q))=true;rw[ho];exact decide_eq_true h)];rfl));(· (rw[if_neg h,colF,List.filter_cons_of_neg (by show ¬ ofB (c:Int) (bs (marksU result ls q))=true;rw[ho];simpa using h)];rfl))
def posM (ms:List Int) (L q:Nat):Nat:=match fromM ms q with|some a=>a|none=>nextM (ms.drop q) L
theorem pos_seg {p ss:List ByteArray} {ms:List Int} (hF:Fits p ms ss 0) (q:Nat):p.take (posM ms p.length q) ++ segL p ms q=p.take (nextM (ms.drop q) p.length):=by
 rw[posM,segL]
 cases h:fromM ms q with
 | none=>simp
 | some a =>
  have:=hF.from_le h;show p.take a ++ (p.take (nextM (ms.drop q) p.length)).drop a=_;(have e:p.take a=(p.take (nextM (ms.drop q) p.length)).take a:=by rw[List.take_take,Nat.min_eq_left this]);rw[e,List.take_append_drop]
theorem pos_line {p ss:List ByteArray} {ms:List Int} (hF:Fits p ms ss 0) {q:Nat} (hq:q < ms.length) (hs:q < ss.length):p.take (nextM (ms.drop q) p.length) ++ (if 0≤ms.getD q 0 then [ss[q]] else [])=p.take (posM ms p.length (q+1)):=by
 (have hg:ms.getD q (-1)=ms[q]:=by rw[List.getD_eq_getElem?_getD,List.getElem?_eq_getElem hq];rfl);(have hg0:ms.getD q 0=ms[q]:=by rw[List.getD_eq_getElem?_getD,List.getElem?_eq_getElem hq];rfl);have hd:ms.drop q=ms[q] :: ms.drop (q+1):=dropCons hq
 rcases hF.at_ q hq with h|⟨k,h,h1,h2,h3⟩
 (· (have hn:fromM ms (q+1)=none:=by rw[fromM,h,if_neg (by decide)]);(rw[hg] at h);rw[hg0,h,if_neg (by decide),List.append_nil,posM,hn,hd,h,nextM,if_neg (by decide)]);(· (have hn:fromM ms (q+1)=some (k+1):=by rw[fromM,h,if_pos (by omega),Int.toNat_natCast]);(rw[hg] at h);rw[hg0,h,if_pos (by omega),posM,hn,hd,h,nextM,if_pos (by omega),Int.toNat_natCast];(rw[List.getElem?_eq_getElem hs,List.getElem?_eq_getElem h2] at h1);rw[← Option.some.inj h1];exact List.take_append_getElem h2)
theorem colF_rows (hn:ls.length≤16) {c:Nat} (hc:c < ls.length) : ∀ q,q≤result.length→colF c (tableRows result ls q)=ls[c].take (posM (matchS result ls[c]) ls[c].length q)
 | 0,_=>by
  have:posM (matchS result ls[c]) ls[c].length 0=0:=rfl;(rw[this,List.take_zero];rfl)
 | q+1,h=>by
  rw[tableRows_succ _ _ _ h,colF_append,colF_append,colF_rows hn hc q (by omega),colF_seg hn hc,colF_line hc,pos_seg (matchS_fits result ls[c])];exact pos_line (matchS_fits result ls[c]) (by rw[matchS_length];exact h) h
theorem colF_all (hn:ls.length≤16) {c:Nat} (hc:c < ls.length):colF c (tableAll result ls)=ls[c]:=by
 rw[tableAll_eq,colF_append,colF_rows hn hc _ (Nat.le_refl _),colF_seg hn hc,pos_seg (matchS_fits result ls[c]),List.drop_of_length_le (by rw[matchS_length];exact Nat.le_refl _)];exact List.take_length
theorem resF_rows (hn:ls.length≤16) : ∀ q,q≤result.length→resF (tableRows result ls q)=result.take q
 | 0,_=>rfl
 | q+1,h=>by
  rw[tableRows_succ _ _ _ h,resF_append,resF_append,resF_rows hn q (by omega),resF_seg hn,resF_line,List.append_nil];exact List.take_append_getElem h
theorem resF_all (hn:ls.length≤16):resF (tableAll result ls)=result:=by
 rw[tableAll_eq,resF_append,resF_rows hn _ (Nat.le_refl _),resF_seg hn,List.append_nil,List.take_length]
end
end TabCols_sec
variable {result:List ByteArray} {ls:List (List ByteArray)}
theorem mark_two (m:Int):markB m=32∨markB m=45:=by
 (unfold markB;split);(· exact .inl rfl);(· exact .inr rfl)
def ShapeT (n:Nat) (x:ApiRow):Prop:=x.f0.size=n∧((∀ c ∈ x.f0.data.toList,c=32∨c=45)∨(∀ c ∈ x.f0.data.toList,c=32∨c=43))
theorem seg_shape (hn:ls.length≤16) (q:Nat) : ∀ x ∈ segRows result ls q,ShapeT ls.length x:=fun x hx=>by
  rw[segRows,List.mem_map] at hx
  obtain⟨y,hy,rfl⟩:=hx
  have hc:=rowsOf_cols (segsL result ls q) (by rw[segsL_length];exact hn) y hy
  refine⟨by rw[rowOut_f0,bs_size,List.length_take,List.length_map,hc.1];omega, .inl fun c hc=>?_⟩
  rw[rowOut_f0] at hc
  have hc:c ∈ (y.1.map markB).take ls.length:=by simpa [bs] using hc
  obtain⟨m,_,rfl⟩:=List.mem_map.1 (List.mem_of_mem_take hc)
  exact mark_two m
theorem line_shape (q:Nat) (s:ByteArray):ShapeT ls.length (⟨bs (marksU result ls q),s⟩:ApiRow):=by
 refine⟨by show (bs (marksU result ls q)).size=_;rw[bs_size,marksU,List.length_map], .inr fun c hc=>line_mem q c (by simpa [bs] using hc)⟩
theorem rows_shape (hn:ls.length≤16) : ∀ q,q≤result.length → ∀ x ∈ tableRows result ls q,ShapeT ls.length x
 | 0,_,x,hx=>by cases hx
 | q+1,h,x,hx=>by
  (rw[tableRows_succ _ _ _ (by omega),List.mem_append,List.mem_append,List.mem_singleton] at hx)
  rcases hx with (hx|hx)|rfl
  (· exact rows_shape hn q (by omega) x hx);(· exact seg_shape hn q x hx);(· exact line_shape q _)
theorem all_shape (hn:ls.length≤16) : ∀ x ∈ tableAll result ls,ShapeT ls.length x:=fun x hx=>by
  rw[tableAll_eq,List.mem_append] at hx
  rcases hx with hx|hx
  · exact rows_shape hn _ (Nat.le_refl _) x hx
  · exact seg_shape hn _ x hx
theorem all_text (hn:ls.length≤16) : ∀ x ∈ tableAll result ls,∃ l ∈ result :: ls,x.f1 ∈ l:=fun x hx=>by
  cases hb:lostB x.f0 with
  | false =>
    refine⟨result,List.mem_cons_self,?_⟩
    have:x.f1 ∈ resF (tableAll result ls):=List.mem_map.2 ⟨x,List.mem_filter.2 ⟨hx,by rw[hb];rfl⟩,rfl⟩
    rwa [resF_all hn] at this
  | true =>
    rw[X.lostB_mem,decide_eq_true_eq] at hb
    obtain⟨c,hc,e⟩:=List.mem_iff_getElem.1 hb
    have hsz:x.f0.data.toList.length=x.f0.size:=by simp
    have hsh:=(all_shape hn x hx).1
    have hcl:c < ls.length:=by omega
    refine⟨ls[c],List.mem_cons_of_mem _ (List.getElem_mem hcl),?_⟩
    have hbt:bt x.f0 (c:Int)=45:=(X.btIs (by omega) 45).2 e
    have:x.f1 ∈ colF c (tableAll result ls):=List.mem_map.2 ⟨x,List.mem_filter.2 ⟨hx,by
      rw[ofB,decide_eq_true (show (0:Int)≤(c:Int) by omega),decide_eq_true (show (c:Int) < (x.f0.size:Int) by omega),hbt];rfl⟩,rfl⟩
    rwa [colF_all hn hcl] at this
theorem mayL_one : ∀ {l:List ByteArray},mayL l=true → ∀ {s:ByteArray},s ∈ l→mayL [s]=true
 | a :: l,h,s,hs=>by
  (rw[mayL,Bool.and_eq_true] at h)
  rcases List.mem_cons.1 hs with rfl|hs
  ·
   rw[mayL,mayL,Bool.and_true];have h1:=h.1
   revert h1
   (cases lineClosed s <;> cases lineOpen s <;> simp)
  (· exact mayL_one h.2 hs)
theorem wrong_no (hw:wrongF mayL (result :: ls)=0):1≤ls.length∧ls.length≤16 ∧ ∀ l ∈ result :: ls,mayL l=true:=by
 (rw[wrongF] at hw);(split at hw);(· cases hw)
 ·
  rename_i h1;(split at hw);(· cases hw)
  ·
   rename_i h2;(rw[List.length_cons] at h1);refine⟨by omega,by omega,fun l hl=>?_⟩
   cases e:mayL l with
   | true=>rfl
   | false=>exact(h2 (List.any_eq_true.2 ⟨l,hl,by rw[e];rfl⟩)).elim
theorem shape_no {n:Nat} {x:ApiRow} (h:ShapeT n x):x.f0.data.toList.all okC=true∧(hasC x.f0 43 && hasC x.f0 45)=false:=by
 obtain⟨h1,h2⟩:=h;constructor
 ·
  rw[List.all_eq_true];intro c hc
  rcases h2 with h2|h2 <;> rcases h2 c hc with rfl|rfl <;> decide
 ·
  rw[Bool.and_eq_false_iff,hasC,hasC,List.any_eq_false,List.any_eq_false]
  rcases h2 with h2|h2
  (· (left;intro c hc;rcases h2 c hc with rfl|rfl <;> decide));(· (right;intro c hc;rcases h2 c hc with rfl|rfl <;> decide))
theorem rd0_all (hn:ls.length≤16) {x:ApiRow} (hx:x ∈ tableAll result ls):(rd_T57 (tableAll result ls) 0).f0.size=ls.length:=by
 cases e:tableAll result ls with
 | nil=>rw[e] at hx;cases hx
 | cons a l=>exact(all_shape hn a (by rw[e];exact List.mem_cons_self)).1
theorem all_may (hw:wrongF mayL (result :: ls)=0):mayB (tableAll result ls)=true:=by
 obtain⟨h1,h2,h3⟩:=wrong_no hw;rw[mayB,List.all_eq_true];intro x hx;have hs:=all_shape h2 x hx;obtain⟨l,hl,ht⟩:=all_text h2 x hx;(rw[rd0_all h2 hx,decide_eq_true ⟨h1,h2⟩,Bool.true_and,mayRow,(shape_no hs).1,(shape_no hs).2,decide_eq_true hs.1,mayL_one (h3 l hl) ht];rfl)
theorem FewT.text (h:FewT result ls) : ∀ l ∈ result :: ls,l.length≤16 ∧ ∀ s ∈ l,s.size≤100:=fun l hl=>by
  rcases List.mem_cons.1 hl with rfl|hl
  · exact h.1
  · exact h.2.2 l hl
theorem all_few (h:FewT result ls):(tableAll result ls).length≤3000 ∧ ∀ x ∈ tableAll result ls,x.f0.size≤6∧x.f1.size≤100:=by
 refine⟨h.all,fun x hx=>?_⟩;(have hn:ls.length≤16:=by have:=h.2.1;omega);obtain⟨l,hl,ht⟩:=all_text hn x hx;exact⟨by rw[(all_shape hn x hx).1];exact h.2.1,(h.text l hl).2 _ ht⟩
theorem all_low (h:FewT result ls):lowB (tableAll result ls)=true:=by
 obtain⟨h1,h2⟩:=all_few h;exact lowB_mk (by omega) (fun x hx=>by have:=(h2 x hx).1;omega) (fun x hx=>by have:=(h2 x hx).2;omega)
end Go.Proofs.YthcnfflhejogfaaDoor.X.T20
namespace Go.Proofs.YthcnfflhejogfaaDoor.X.T20
open Go.RowKit YthcnfflhejogfaaDoorW.PrintWords YthcnfflhejogfaaDoorW.PrintLast YthcnfflhejogfaaDoorW.PrintMore
section PairMath_sec
theorem matchFrom_self : ∀ (a:List Int) (j:Nat),matchFrom a a j=(List.range' j a.length).map (fun k:Nat=>(k:Int))
 | [],j=>by simp[matchFrom_nil]
 | x :: a,j=>by rw[matchFrom_cons,if_pos rfl,matchFrom_self a (j+1)];simp[List.range'_succ]
theorem matchS_self (a:List ByteArray):matchS a a=(List.range' 0 a.length).map (fun k:Nat=>(k:Int)):=by
 rw[matchS,matchOf,matchFrom_self,List.length_map]
end PairMath_sec
section Table_sec
open Go.RowKit Go.Proofs.YthcnfflhejogfaaDoorW.PrintWords Go.Proofs.YthcnfflhejogfaaDoorW.PrintLast Go.Proofs.YthcnfflhejogfaaDoorW.PrintMore
open Go.Maps
def LostOk (parents:List (List ByteArray)) (lost:Nat→Option (List (List ByteArray))):Prop :=
  ∀ line ls,lost line=some ls→ls.length=parents.length ∧ ∀ (c:Nat) (l:List ByteArray),ls[c]? = some l→l.length≤(parents.getD c []).length ∧ ∀ s ∈ l,s ∈ parents.getD c []
theorem LostOk.lose {parents:List (List ByteArray)} {lost:Nat→Option (List (List ByteArray))} (h:LostOk parents lost) (col to_ at_ line:Nat):LostOk parents (loseAt parents.length col (parents.getD col []) lost to_ at_ line):=by
 unfold loseAt;split
 ·
  intro q ls hq
  by_cases e:q=line
  ·
   (simp only[if_pos e,Option.some.injEq] at hq)
   have hb:((lost line).getD (List.replicate parents.length [])).length=parents.length ∧ ∀ (c:Nat) (l:List ByteArray),((lost line).getD (List.replicate parents.length []))[c]? = some l→l.length≤(parents.getD c []).length ∧ ∀ s ∈ l,s ∈ parents.getD c []:=by
    cases hlo:lost line with
    | none =>
     refine⟨by simp,fun c l hl=>?_⟩;have hl:(List.replicate parents.length ([]:List ByteArray))[c]? = some l:=hl;(rw[List.getElem?_replicate] at hl);(split at hl);(· (cases hl;simp));(· cases hl)
    | some ls'=>exact h line ls' hlo
   subst hq;refine⟨by rw[List.length_set];exact hb.1,fun c l hl=>?_⟩;(rw[List.getElem?_set] at hl);(split at hl)
   ·
    (split at hl);(· cases hl;rename_i e2 _;subst e2;refine⟨?_,fun s hs=>List.mem_of_mem_take (List.mem_of_mem_drop hs)⟩;(rw[List.length_drop,List.length_take];omega));(· cases hl)
   (· exact hb.2 c l hl)
  (· (simp only[if_neg e] at hq);exact h q ls hq)
 (· exact h)
theorem LostOk.pair {parents:List (List ByteArray)} (col:Nat) : ∀ (ms:List Int) (i at_ last:Nat) (lost:Nat→Option (List (List ByteArray))),LostOk parents lost→LostOk parents (pairGo parents.length col (parents.getD col []) ms i at_ last lost)
 | [],i,at_,last,lost,h=>h.lose _ _ _ _
 | m :: ms,i,at_,last,lost,h=>by
  rw[pairGo];split;(· exact LostOk.pair col ms _ _ _ _ (h.lose _ _ _ _));(· exact LostOk.pair col ms _ _ _ _ h)
theorem LostOk.from_ (result:List ByteArray) (parents:List (List ByteArray)) : ∀ k,k≤parents.length→LostOk parents (lostFrom parents.length result (parents.take k) 0 (fun _=>none))
 | 0,_=>fun line ls h=>by simp[lostFrom] at h
 | k+1,hk=>by
  (have hkl:k < parents.length:=by omega);have h:=LostOk.from_ result parents k (by omega);rw[← List.take_append_getElem hkl,lostFrom_snoc,List.length_take_of_le (by omega),Nat.zero_add];have:=h.pair k (matchS result parents[k]) 0 0 0
  rwa [show parents.getD k []=parents[k] by simp[hkl]] at this
theorem LostOk.all (result:List ByteArray) (parents:List (List ByteArray)):LostOk parents (lostAll result parents):=by
 have:=LostOk.from_ result parents parents.length (Nat.le_refl _)
 rwa [List.take_length] at this
end Table_sec
section TabSame_sec
open Go.RowKit Go.Proofs.YthcnfflhejogfaaDoorW.PrintWords Go.Proofs.YthcnfflhejogfaaDoorW.PrintLast Go.Proofs.YthcnfflhejogfaaDoorW.PrintMore
def flat (U:List UInt8) (l:List ByteArray):List ApiRow:=l.map (fun s=>⟨bs U,s⟩)
theorem tableAll_flat {result:List ByteArray} {ls:List (List ByteArray)} (U:List UInt8) (h1 : ∀ q,(segsL result ls q).all (·.isEmpty)=true) (h2 : ∀ k,k < result.length→marksU result ls k=U):tableAll result ls=flat U result:=by
 (have hs : ∀ q,segRows result ls q=[]:=fun q=>by rw[segRows,rowsOf_empties (h1 q)];rfl)
 have hr : ∀ q,q≤result.length→tableRows result ls q=flat U (result.take q):=by
  intro q
  induction q with
  | zero=>intro _;rfl
  | succ q ih =>
   intro hq;(rw[tableRows_succ _ _ _ hq,ih (by omega),hs,List.append_nil,h2 q hq,← List.take_append_getElem hq,flat,flat,List.map_append];rfl)
 rw[tableAll_eq,hr _ (Nat.le_refl _),hs,List.append_nil,List.take_length]
theorem all_empty_replicate {f:List ByteArray→List ByteArray} {n:Nat} {l:List ByteArray} (h:f l=[]):((List.replicate n l).map f).all (·.isEmpty)=true:=by
 rw[List.map_replicate,h]
 induction n with
 | zero=>rfl
 | succ n ih=>rw[List.replicate_succ,List.all_cons,ih];rfl
section
variable (l:List ByteArray)
theorem self_get (q:Nat):(matchS l l).getD q (-1)=if q < l.length then (q:Int) else -1:=by
 rw[matchS_self,List.getD_eq_getElem?_getD,List.getElem?_map]
 by_cases h:q < l.length
 (· (rw[if_pos h,List.getElem?_range' h];simp));(· (rw[if_neg h,List.getElem?_eq_none (by simp;omega)];rfl))
theorem self_drop (q:Nat) (h:q < l.length):nextM ((matchS l l).drop q) l.length=q:=by
 (have hl:q < (matchS l l).length:=by rw[matchS_length];exact h);have e:=self_get l q;(rw[if_pos h,List.getD_eq_getElem?_getD,List.getElem?_eq_getElem hl] at e);have e':(matchS l l)[q]=(q:Int):=e;rw[dropCons hl,e',nextM,if_pos (by omega),Int.toNat_natCast]
theorem self_seg (q:Nat):segL l (matchS l l) q=[]:=by
 rw[segL];split;(· rfl)
 ·
  rename_i a ha
  have hq:q=a∧q≤l.length:=by
   cases q with
   | zero=>exact⟨Option.some.inj ha,Nat.zero_le _⟩
   | succ q =>
    (rw[fromM,self_get] at ha)
    by_cases h:q < l.length
    (· (rw[if_pos h,if_pos (by omega),Int.toNat_natCast] at ha);exact⟨Option.some.inj ha,h⟩);(· (rw[if_neg h,if_neg (by decide)] at ha;cases ha))
  obtain⟨rfl,hq⟩:=hq;rw[List.drop_eq_nil_iff,List.length_take]
  by_cases h:q < l.length
  (· (rw[self_drop l q h];omega));(· omega)
theorem table_self {n:Nat}:tableAll l (List.replicate n l)=flat (List.replicate n 32) l:=by
 (refine tableAll_flat _ (fun q=>all_empty_replicate (self_seg l q)) fun k hk=>?_);have e:=self_get l k;(rw[if_pos hk] at e);(have hk':k < (matchS l l).length:=by rw[matchS_length];exact hk)
 have e2:(matchS l l).getD k 0=(k:Int):=by
  (rw[List.getD_eq_getElem?_getD,List.getElem?_eq_getElem hk'] at e ⊢;exact e)
 rw[marksU,List.map_replicate,e2,if_pos (by omega)]
end
section
variable {l:List ByteArray}
end
end TabSame_sec
end Go.Proofs.YthcnfflhejogfaaDoor.X.T20
namespace Go.Proofs.YthcnfflhejogfaaDoor.X
open Go.RowKit YthcnfflhejogfaaDoorW.PrintWords YthcnfflhejogfaaDoorW.PrintLast YthcnfflhejogfaaDoorW.PrintMore
abbrev Txt:=List RowH→List ByteArray
abbrev Spn:=Hunk48→Span45
def cutT (l:List ByteArray) (f t:Nat):List ByteArray:=(l.take t).drop f
theorem cutT_len {l:List ByteArray} {f t:Nat} (ht:t≤l.length):(cutT l f t).length=t - f:=by
 rw[cutT,List.length_drop,List.length_take,Nat.min_eq_left ht]
def goF (spO spN:Spn) (txO txN:Txt) (file:List ByteArray):List Hunk48→List ByteArray→Int→Int→List ByteArray × Int
  | [],out,a,_=>if mayL (out ++ file.drop a.toNat)=true then (out ++ file.drop a.toNat,0) else ([],7)
  | h :: t,out,a,b=>if (spO h).f1≤(file.length:Int)∧cutT file (spO h).f0.toNat (spO h).f1.toNat=txO h.f2∧(spO h).f0 - a=(spN h).f0 - b then goF spO spN txO txN file t (out ++ (cutT file a.toNat (spO h).f0.toNat ++ txN h.f2)) (spO h).f1 (spN h).f1 else ([],7)
def ChainOk (spO spN:Spn) (txO txN:Txt):List Hunk48→Nat→Nat→Prop
  | [],_,_=>True
  | h :: t,a,b => ∃ f g f' g':Nat,spO h=⟨(f:Int),(g:Int)⟩∧spN h=⟨(f':Int),(g':Int)⟩∧a≤f∧f≤g∧g≤2000∧b≤f'∧f'≤g'∧g'≤2000∧(txO h.f2).length=g - f∧(txN h.f2).length=g' - f'∧ChainOk spO spN txO txN t g g'
theorem ChainOk.swap {spO spN:Spn} {txO txN:Txt} : ∀ {l:List Hunk48} {a b:Nat},ChainOk spO spN txO txN l a b→ChainOk spN spO txN txO l b a
 | [],_,_,_=>trivial
 | h :: t,a,b,⟨f,g,f',g',h1,h2,h3,h4,h5,h6,h7,h8,h9,h10,h11⟩=>⟨f',g',f,g,h2,h1,h6,h7,h8,h3,h4,h5,h10,h9,ChainOk.swap h11⟩
section
variable {spO spN:Spn} {txO txN:Txt} {file res:List ByteArray}
theorem goF_nil (out:List ByteArray) (a b:Nat):goF spO spN txO txN file [] out a b=if mayL (out ++ file.drop a)=true then (out ++ file.drop a,0) else ([],7):=by
 rw[goF,Int.toNat_natCast]
theorem goF_cons {h:Hunk48} {f g f' g':Nat} (h1:spO h=⟨(f:Int),(g:Int)⟩) (h2:spN h=⟨(f':Int),(g':Int)⟩) (t:List Hunk48) (out:List ByteArray) (a b:Nat) :
    goF spO spN txO txN file (h :: t) out a b=if g≤file.length∧cutT file f g=txO h.f2∧(f:Int) - a=(f':Int) - b then goF spO spN txO txN file t (out ++ (cutT file a f ++ txN h.f2)) (g:Int) (g':Int) else ([],7):=by
 rw[goF,h1,h2];simp only[Int.toNat_natCast,Int.ofNat_le]
end
def txP (P:ByteArray→Bool) (R:List RowH):List ByteArray:=(R.filter (fun x=>P x.f0)).map (·.f1)
section
variable {P Q:ByteArray→Bool} {R R':List RowH}
theorem marks_at (hm:R'.map (·.f0)=R.map (·.f0)) {i:Nat} (h:i < R.length) (h':i < R'.length):R'[i].f0=R[i].f0:=by
 (have e1:(R'.map (·.f0))[i]'(by simpa using h')=R'[i].f0:=by simp);(have e2:(R.map (·.f0))[i]'(by simpa using h)=R[i].f0:=by simp);rw[← e1,← e2];simp only[hm]
theorem marks_len (hm:R'.map (·.f0)=R.map (·.f0)):R'.length=R.length:=by
 have:=congrArg List.length hm;simpa using this
def BothOk (P Q:ByteArray→Bool) (R:List RowH) (sh:List Bool):Prop := ∀ j (h:j < R.length),¬ HkP.MarkAt id sh j→P R[j].f0=true∧Q R[j].f0=true
theorem BothOk.marks {sh:List Bool} (hB:BothOk P Q R sh) (hm:R'.map (·.f0)=R.map (·.f0)):BothOk P Q R' sh:=fun j h hj=>by
  have hl:=marks_len hm
  rw[marks_at hm (by omega) h]
  exact hB j (by omega) hj
variable {spO spN:Spn}
end
def notL (s:ByteArray):Bool := !lostB s
def spP (i:Int) (h:Hunk48):Span45:=rd_T45 h.f0 i
def spR (h:Hunk48):Span45:=h.f1
def marksN (R:List RowH):Nat:=(rd_T57 R 0).f0.size
def spanB (s:Span45) (least:Int) (many:Nat):Bool:=decide (least≤s.f0) && (decide (s.f0≤s.f1) && (decide (s.f1≤2000) && decide (s.f1 - s.f0=(many:Int))))
theorem spanB_iff {s:Span45} {least:Int} {many:Nat}:spanB s least many=true↔least≤s.f0∧s.f0≤s.f1∧s.f1≤2000∧s.f1 - s.f0=(many:Int):=by
 rw[spanB,Bool.and_eq_true,Bool.and_eq_true,Bool.and_eq_true,decide_eq_true_eq,decide_eq_true_eq,decide_eq_true_eq,decide_eq_true_eq]
def lastP (last:Option Hunk48) (k:Nat):Int:=match last with|none=>0|some h=>(spP (k:Int) h).f1
def lastR (last:Option Hunk48):Int:=match last with|none=>0|some h=>h.f1.f1
def hunkB (n0:Nat) (last:Option Hunk48) (h:Hunk48):Bool :=
  (!decide (h.f2=[]) && (mayB h.f2 && (decide (h.f0.length=marksN h.f2) && decide (h.f0.length=n0)))) && ((List.range h.f0.length).all (fun k=>spanB (spP (k:Int) h) (lastP last k) (txP (ofB (k:Int)) h.f2).length) && spanB h.f1 (lastR last) (txP notL h.f2).length)
theorem hunkB_iff {n0:Nat} {last:Option Hunk48} {h:Hunk48}:hunkB n0 last h=true↔h.f2≠[]∧mayB h.f2=true∧h.f0.length=marksN h.f2∧h.f0.length=n0∧(∀ k,k < h.f0.length→spanB (spP (k:Int) h) (lastP last k) (txP (ofB (k:Int)) h.f2).length=true)∧spanB h.f1 (lastR last) (txP notL h.f2).length=true:=by
 rw[hunkB,Bool.and_eq_true,Bool.and_eq_true,Bool.and_eq_true,Bool.and_eq_true,Bool.and_eq_true,Bool.not_eq_true',decide_eq_false_iff_not,decide_eq_true_eq,decide_eq_true_eq,List.all_eq_true];constructor;(· rintro⟨⟨h1,h2,h3,h4⟩,h5,h6⟩;exact⟨h1,h2,h3,h4,fun k hk=>h5 k (List.mem_range.2 hk),h6⟩);(· rintro⟨h1,h2,h3,h4,h5,h6⟩;exact⟨⟨h1,h2,h3,h4⟩,fun k hk=>h5 k (List.mem_range.1 hk),h6⟩)
def mayGo (n0:Nat):Option Hunk48→List Hunk48→Bool
  | _,[]=>true
  | last,h :: t=>hunkB n0 last h && mayGo n0 (some h) t
def firstN (l:List Hunk48):Nat:=(rd_T48 l 0).f0.length
def mayHB (l:List Hunk48):Bool:=mayGo (firstN l) none l
theorem chain_of (n0 i:Nat) (hi:i < n0) : ∀ (t:List Hunk48) (last:Option Hunk48) (a b:Nat),lastP last i=(a:Int)→lastR last=(b:Int)→mayGo n0 last t=true→ChainOk (spP (i:Int)) spR (txP (ofB (i:Int))) (txP notL) t a b
 | [],_,_,_,_,_,_=>trivial
 | h :: t,last,a,b,ha,hb,hm=>by
  (rw[mayGo,Bool.and_eq_true,hunkB_iff] at hm);obtain⟨⟨h1,h2,h3,h4,h5,h6⟩,h7⟩:=hm;obtain⟨p1,p2,p3,p4⟩:=spanB_iff.1 (h5 i (by omega));obtain⟨q1,q2,q3,q4⟩:=spanB_iff.1 h6;(rw[ha] at p1);(rw[hb] at q1);refine⟨(spP (i:Int) h).f0.toNat,(spP (i:Int) h).f1.toNat,h.f1.f0.toNat,h.f1.f1.toNat,?_,?_,by omega,by omega,by omega,by omega,by omega,by omega,by omega,by omega,?_⟩;(· rw[Int.toNat_of_nonneg (by omega),Int.toNat_of_nonneg (by omega)]);(· (rw[Int.toNat_of_nonneg (by omega),Int.toNat_of_nonneg (by omega)];rfl));(· exact chain_of n0 i hi t (some h) _ _ (by show (spP (i:Int) h).f1=_;omega) (by show h.f1.f1=_;omega) h7)
def checkF (l:List Hunk48) (column:Int) (file:List ByteArray):Int :=
  if column < 0∨(0 < l.length∧column ≥ (firstN l:Int))∨mayL file=false then 1 else if mayHB l=false then 2 else 0
def runF (back:Bool) (l:List Hunk48) (column:Int) (file:List ByteArray):List ByteArray × Int :=
  if checkF l column file=0 then (if back=true then goF spR (spP column) (txP notL) (txP (ofB column)) file l [] 0 0 else goF (spP column) spR (txP (ofB column)) (txP notL) file l [] 0 0) else ([],checkF l column file)
theorem checkF_0 {l:List Hunk48} {column:Int} {file:List ByteArray}:checkF l column file=0↔0≤column∧(0 < l.length→column < (firstN l:Int))∧mayL file=true∧mayHB l=true:=by
 rw[checkF];split
 ·
  rename_i h;constructor;(· (intro e;exact absurd e (by decide)))
  ·
   rintro⟨h1,h2,h3,h4⟩
   rcases h with h|h|h
   (· omega);(· (have:=h2 h.1;omega));(· (rw[h3] at h;cases h))
 ·
  rename_i h;(have h1 : ¬ column < 0:=fun e=>h (.inl e));(have h2 : ¬ (0 < l.length∧column ≥ (firstN l:Int)):=fun e=>h (.inr (.inl e)))
  have h3:mayL file=true:=by
   cases e:mayL file with
   | true=>rfl
   | false=>exact(h (.inr (.inr e))).elim
  split
  ·
   rename_i h4;constructor;(· (intro e;exact absurd e (by decide)));(· (rintro⟨_,_,_,h5⟩;rw[h4] at h5;cases h5))
  ·
   rename_i h4;refine⟨fun _=>⟨by omega,fun e=>by omega,h3,?_⟩,fun _=>rfl⟩
   cases e:mayHB l with
   | true=>rfl
   | false=>exact(h4 e).elim
theorem chain_check {l:List Hunk48} {column:Int} {file:List ByteArray} (h:checkF l column file=0):ChainOk (spP column) spR (txP (ofB column)) (txP notL) l 0 0:=by
 obtain⟨h1,h2,h3,h4⟩:=checkF_0.1 h
 cases l with
 | nil=>trivial
 | cons x t =>
  have h2:=h2 (by simp);obtain⟨i,rfl⟩ : ∃ i:Nat,column=(i:Int):=⟨column.toNat,by omega⟩;exact chain_of (firstN (x :: t)) i (by omega) (x :: t) none 0 0 rfl rfl h4
def LowH (l:List Hunk48):Prop:=l.length≤100000 ∧ ∀ h ∈ l,h.f0.length≤1000000∧lowB h.f2=true
theorem rdHunk {l:List Hunk48} {i:Nat} (h:i < l.length):rd_T48 l (i:Int)=l[i]:=getN h
theorem within_f (s a:Span45) (m:Nat) (ha:0≤a.f1):patch_within.f s.f0 s.f1 a.f0 a.f1 (m:Int)=some (spanB s a.f1 m):=by
 rw[patch_within.f]
 by_cases h1:a.f1≤s.f0
 ·
  rw[if_pos h1]
  by_cases h2:s.f0≤s.f1
  ·
   rw[if_pos h2]
   by_cases h3:s.f1≤2000
   ·
    rw[if_pos h3,gw (by omega) (by omega),spanB,decide_eq_true h1,decide_eq_true h2,decide_eq_true h3];simp only[Bool.true_and]
    congr 1
   (· (rw[if_neg h3,spanB,decide_eq_false h3];simp))
  (· (rw[if_neg h2,spanB,decide_eq_false h2];simp))
 (· (rw[if_neg h1,spanB,decide_eq_false h1];simp))
theorem spans_f (h:Hunk48) (hl:h.f0.length≤1000000):patch_spans.f h.f0 h.f1.f0 h.f1.f1 h.f2=some (h.f0 ++ [h.f1]):=by
 rw[patch_spans.f,slices_Clone_api_Span.f,if_pos (by omega),Option.bind_some,Option.bind_some,if_pos (by simp;omega)]
def countsH (h:Hunk48):List Nat:=(List.range h.f0.length).map (fun k:Nat=>(txP (ofB (k:Int)) h.f2).length) ++ [(txP notL h.f2).length]
theorem counts_f (h:Hunk48) (hl:h.f0.length≤1000000) (hr:lowB h.f2=true):Gives (fun k=>patch_counts.f k h.f0 h.f1.f0 h.f1.f1 h.f2) ((countsH h).map (fun m:Nat=>(m:Int))):=by
 obtain⟨h1,h2,h3⟩:=lowB_iff hr
 have hloop : ∀ (r i:Nat),i+r=h.f0.length→Gives (fun k=>patch_counts.l0 k ((List.range i).map (fun k:Nat=>((txP (ofB (k:Int)) h.f2).length:Int))) (h.f0.length:Int) (i:Int) h.f0 h.f1.f0 h.f1.f1 h.f2) ((countsH h).map (fun m:Nat=>(m:Int))):=by
  intro r
  induction r with
  | zero =>
   intro i hi;(refine Gives.of fun k=>?_);show patch_counts.l0 (k+1) _ _ _ _ _ _ _=_;rw[patch_counts.l0,if_neg (by omega),res_f (by omega) (fun x hx=>by have:=h2 x hx;omega),Option.bind_some,if_pos (by simp;omega)];(obtain rfl:i=h.f0.length:=by omega);(rw[countsH,List.map_append,List.map_map];rfl)
  | succ r ih =>
   intro i hi;have hn:=ih (i+1) (by omega);(rw[List.range_succ,List.map_append] at hn);(refine hn.step fun k=>?_);show patch_counts.l0 (k+1) _ _ _ _ _ _ _=_;(rw[patch_counts.l0,if_pos (by omega),col_f (i:Int) (by omega) (fun x hx=>by have:=h2 x hx;omega),Option.bind_some,if_pos (by simp;omega),gw1 (by omega)];rfl)
 (exact(hloop h.f0.length 0 (by omega)).same fun k=>rfl)
theorem rd45 {l:List Span45} {i:Nat} (h:i < l.length):rd_T45 l (i:Int)=l[i]:=getN h
theorem within_l1 {l:List Hunk48} {q:Nat} {S Ah:List Span45} {M:List Nat} (hA:Ah.length=S.length) (hM:M.length=S.length) (hS:S.length≤1000001) (hq:q≤1000000) (h0 : ∀ a ∈ Ah,0≤a.f1) {b:Bool} (hb:Gives (fun k=>patch_May.l0 k l l (l.length:Int) ((q+1:Nat):Int)) b) :
    ∀ (r i:Nat),i+r=S.length→Gives (fun k=>patch_May.l1 k l Ah (M.map (fun m:Nat=>(m:Int))) l (l.length:Int) (q:Int) S (S.length:Int) (i:Int)) ((List.range' i r).all (fun j=>spanB (rd_T45 S (j:Int)) (rd_T45 Ah (j:Int)).f1 (M.getD j 0)) && b):=by
 intro r
 induction r with
 | zero =>
  intro i hi;(refine(hb.eq (by simp)).step fun k=>?_);show patch_May.l1 (k+1) _ _ _ _ _ _ _ _ _=_;rw[patch_May.l1,if_neg (by omega),gw1 (by omega)]
 | succ r ih =>
  intro i hi;(have hiS:i < S.length:=by omega)
  have e1:rd (M.map (fun m:Nat=>(m:Int))) (i:Int)=((M.getD i 0:Nat):Int):=by
   rw[show rd (M.map (fun m:Nat=>(m:Int))) (i:Int)=(M.map (fun m:Nat=>(m:Int)))[i]'(by simp;omega) from getN (by simp;omega)];rw[List.getElem_map,List.getD_eq_getElem?_getD,List.getElem?_eq_getElem (by omega),Option.getD_some]
  have hw:=within_f (rd_T45 S (i:Int)) (rd_T45 Ah (i:Int)) (M.getD i 0) (by rw[rd45 (by omega)];exact h0 _ (List.getElem_mem _));rw[List.range'_succ,List.all_cons]
  cases hv:spanB (rd_T45 S (i:Int)) (rd_T45 Ah (i:Int)).f1 (M.getD i 0) with
  | true =>
   (rw[hv] at hw);(refine((ih (i+1) (by omega)).eq (by rw[Bool.true_and])).step fun k=>?_);show patch_May.l1 (k+1) _ _ _ _ _ _ _ _ _=_;rw[patch_May.l1,if_pos (by omega),if_pos (by omega),if_pos (by omega),if_pos (by omega),if_pos (by simp;omega),e1,hw,Option.bind_some,if_pos rfl,gw1 (by omega)]
  | false =>
   (rw[hv] at hw);(refine Gives.of fun k=>?_);show patch_May.l1 (k+1) _ _ _ _ _ _ _ _ _=_;(rw[patch_May.l1,if_pos (by omega),if_pos (by omega),if_pos (by omega),if_pos (by omega),if_pos (by simp;omega),e1,hw,Option.bind_some,if_neg (by decide)];rfl)
theorem within_no {l:List Hunk48} {q:Nat} {S Ah:List Span45} {M:List Nat} (hA:Ah.length=S.length) (hM:M.length=S.length) (hS:S.length≤1000001) (h0 : ∀ a ∈ Ah,0≤a.f1) :
    ∀ (r i:Nat),i+r=S.length→(List.range' i r).all (fun j=>spanB (rd_T45 S (j:Int)) (rd_T45 Ah (j:Int)).f1 (M.getD j 0))=false→Gives (fun k=>patch_May.l1 k l Ah (M.map (fun m:Nat=>(m:Int))) l (l.length:Int) (q:Int) S (S.length:Int) (i:Int)) false:=by
 intro r
 induction r with
 | zero=>intro i hi hf;simp at hf
 | succ r ih =>
  intro i hi hf;(have hiS:i < S.length:=by omega)
  have e1:rd (M.map (fun m:Nat=>(m:Int))) (i:Int)=((M.getD i 0:Nat):Int):=by
   rw[show rd (M.map (fun m:Nat=>(m:Int))) (i:Int)=(M.map (fun m:Nat=>(m:Int)))[i]'(by simp;omega) from getN (by simp;omega)];rw[List.getElem_map,List.getD_eq_getElem?_getD,List.getElem?_eq_getElem (by omega),Option.getD_some]
  have hw:=within_f (rd_T45 S (i:Int)) (rd_T45 Ah (i:Int)) (M.getD i 0) (by rw[rd45 (by omega)];exact h0 _ (List.getElem_mem _));(rw[List.range'_succ,List.all_cons] at hf)
  cases hv:spanB (rd_T45 S (i:Int)) (rd_T45 Ah (i:Int)).f1 (M.getD i 0) with
  | true =>
   (rw[hv] at hw hf);(rw[Bool.true_and] at hf);(refine(ih (i+1) (by omega) hf).step fun k=>?_);show patch_May.l1 (k+1) _ _ _ _ _ _ _ _ _=_;rw[patch_May.l1,if_pos (by omega),if_pos (by omega),if_pos (by omega),if_pos (by omega),if_pos (by simp;omega),e1,hw,Option.bind_some,if_pos rfl,gw1 (by omega)]
  | false =>
   (rw[hv] at hw);(refine Gives.of fun k=>?_);show patch_May.l1 (k+1) _ _ _ _ _ _ _ _ _=_;rw[patch_May.l1,if_pos (by omega),if_pos (by omega),if_pos (by omega),if_pos (by omega),if_pos (by simp;omega),e1,hw,Option.bind_some,if_neg (by decide)]
def aheadH (n:Nat):Option Hunk48→List Span45
  | none=>List.replicate (n+1) z45
  | some h=>h.f0 ++ [h.f1]
theorem all_spans (n0:Nat) (h:Hunk48) (last:Option Hunk48) (hn:h.f0.length=n0) (hl : ∀ g,last=some g→g.f0.length=n0) :
    (List.range' 0 (n0+1)).all (fun j=>spanB (rd_T45 (h.f0 ++ [h.f1]) (j:Int)) (rd_T45 (aheadH n0 last) (j:Int)).f1 ((countsH h).getD j 0))=((List.range n0).all (fun k=>spanB (spP (k:Int) h) (lastP last k) (txP (ofB (k:Int)) h.f2).length) && spanB h.f1 (lastR last) (txP notL h.f2).length):=by
 have hA:(aheadH n0 last).length=n0+1:=by
  cases last with
  | none=>simp[aheadH]
  | some g=>rw[aheadH,List.length_append,List.length_singleton,hl g rfl]
 (have hC:(countsH h).length=n0+1:=by rw[countsH,List.length_append,List.length_map,List.length_range,List.length_singleton,hn])
 have hk1 : ∀ k,k < n0→rd_T45 (h.f0 ++ [h.f1]) (k:Int)=spP (k:Int) h:=fun k hk=>by
  rw[rd45 (by rw[List.length_append];omega),List.getElem_append_left (by omega),spP,rd45 (by omega)]
 have hk2 : ∀ k,k < n0→(rd_T45 (aheadH n0 last) (k:Int)).f1=lastP last k:=fun k hk=>by
  cases last with
  | none=>rw[rd45 (by omega)];simp only[aheadH,List.getElem_replicate];rfl
  | some g =>
   have hg:=hl g rfl;rw[rd45 (by omega)];simp only[aheadH];rw[List.getElem_append_left (by omega),lastP,spP,rd45 (by omega)]
 have hk3 : ∀ k,k < n0→(countsH h).getD k 0=(txP (ofB (k:Int)) h.f2).length:=fun k hk=>by
  (rw[List.getD_eq_getElem?_getD,countsH,List.getElem?_append_left (by simp;omega),List.getElem?_map,List.getElem?_range (by omega)];rfl)
 have hn1:rd_T45 (h.f0 ++ [h.f1]) (n0:Int)=h.f1:=by
  rw[rd45 (by rw[List.length_append,List.length_singleton];omega),List.getElem_append_right (by omega)];simp only[hn,Nat.sub_self,List.getElem_cons_zero]
 have hn2:(rd_T45 (aheadH n0 last) (n0:Int)).f1=lastR last:=by
  cases last with
  | none=>rw[rd45 (by omega)];simp only[aheadH,List.getElem_replicate];rfl
  | some g =>
   have hg:=hl g rfl;rw[rd45 (by omega)];simp only[aheadH];rw[List.getElem_append_right (by omega)];(simp only[hg,Nat.sub_self,List.getElem_cons_zero];rfl)
 have hn3:(countsH h).getD n0 0=(txP notL h.f2).length:=by
  rw[List.getD_eq_getElem?_getD,countsH,List.getElem?_append_right (by simp;omega)];simp[hn]
 rw[← List.range_eq_range',List.range_succ,List.all_append]
 congr 1
 ·
  rw[Bool.eq_iff_iff,List.all_eq_true,List.all_eq_true];constructor
  ·
   intro H k hk;have:=H k hk;have hk':=List.mem_range.1 hk
   rwa [hk1 k hk',hk2 k hk',hk3 k hk'] at this
  (· intro H k hk;have hk':=List.mem_range.1 hk;rw[hk1 k hk',hk2 k hk',hk3 k hk'];exact H k hk)
 (· rw[List.all_cons,List.all_nil,Bool.and_true,hn1,hn2,hn3])
def prevH (l:List Hunk48) (i:Nat):Option Hunk48:=if i=0 then none else l[i - 1]?
def OkP (n0:Nat) (last:Option Hunk48):Prop := ∀ g,last=some g→g.f0.length=n0∧(∀ s ∈ g.f0,0≤s.f1)∧0≤g.f1.f1
theorem OkP.low {n0:Nat} {last:Option Hunk48} (h:OkP n0 last):(∀ k,k < n0→0≤lastP last k)∧0≤lastR last:=by
 cases last with
 | none=>exact⟨fun _ _=>Int.le_refl _,Int.le_refl _⟩
 | some g =>
  obtain⟨h1,h2,h3⟩:=h g rfl;refine⟨fun k hk=>?_,h3⟩;show 0≤(rd_T45 g.f0 (k:Int)).f1;rw[rd45 (by omega)];exact h2 _ (List.getElem_mem _)
theorem OkP.next {n0:Nat} {last:Option Hunk48} (h:OkP n0 last) {g:Hunk48} (hg:hunkB n0 last g=true):OkP n0 (some g):=fun g' e=>by
  cases e
  obtain⟨h1,h2,h3,h4,h5,h6⟩:=hunkB_iff.1 hg
  obtain⟨k1,k2⟩:=h.low
  refine⟨h4,fun s hs=>?_,?_⟩
  · obtain⟨k,hk,rfl⟩:=List.mem_iff_getElem.1 hs
    obtain⟨p1,p2,p3,p4⟩:=spanB_iff.1 (h5 k hk)
    have:=k1 k (by omega)
    rw[show spP (k:Int) g=g.f0[k] from rd45 hk] at p1 p2
    omega
  · obtain⟨p1,p2,p3,p4⟩:=spanB_iff.1 h6
    omega
theorem OkP.ahead {n0:Nat} {last:Option Hunk48} (h:OkP n0 last):(aheadH n0 last).length=n0+1 ∧ ∀ a ∈ aheadH n0 last,0≤a.f1:=by
 cases last with
 | none=>exact⟨by simp[aheadH],fun a ha=>by rw[List.eq_of_mem_replicate ha];exact Int.le_refl _⟩
 | some g =>
  obtain⟨h1,h2,h3⟩:=h g rfl;refine⟨by rw[aheadH,List.length_append,List.length_singleton,h1],fun a ha=>?_⟩
  rcases List.mem_append.1 ha with ha|ha
  (· exact h2 a ha);(· (rw[List.mem_singleton.1 ha];exact h3))
theorem may_hunks {l:List Hunk48} (hl:LowH l):Gives (fun k=>patch_May.f k l) (mayHB l):=by
 have hloop : ∀ (r i:Nat),i+r=l.length→OkP (firstN l) (prevH l i)→Gives (fun k=>patch_May.l0 k l l (l.length:Int) (i:Int)) (mayGo (firstN l) (prevH l i) (l.drop i)):=by
  intro r
  induction r with
  | zero =>
   intro i hi _;rw[List.drop_of_length_le (by omega)];(refine Gives.of fun k=>?_);show patch_May.l0 (k+1) _ _ _ _=_;(rw[patch_May.l0,if_neg (by omega)];rfl)
  | succ r ih =>
   intro i hi hok;(have hil:i < l.length:=by omega);obtain⟨h,hh⟩ : ∃ h,l[i]=h:=⟨_,rfl⟩;(have hmem:h ∈ l:=by rw[← hh];exact List.getElem_mem hil);obtain⟨b1,b2⟩:=hl.2 h hmem;obtain⟨c1,c2,c3⟩:=lowB_iff b2;have hll:=hl.1;(have hrd:rd_T48 l (i:Int)=h:=by rw[rdHunk hil,hh]);rw[dropCons hil,hh,mayGo]
   have hno:Gives (fun k=>patch_May.j1 k l (i:Int) l (l.length:Int) (i:Int) true h.f0 h.f1.f0 h.f1.f1 h.f2) false:=Gives.of fun k=>by
    show patch_May.j1 (k+1) _ _ _ _ _ _ _ _ _ _=_;rw[patch_May.j1,if_pos rfl]
   by_cases h0:h.f2=[]
   (· (refine(hno.eq (by rw[hunkB,decide_eq_true h0];rfl)).step fun k=>?_);show patch_May.l0 (k+1) _ _ _ _=_;rw[patch_May.l0,if_pos (by omega),if_pos (by omega),if_pos (by omega),hrd,if_pos (by rw[h0];rfl)])
   ·
    have hpos:0 < h.f2.length:=List.length_pos_iff.2 h0;have hm:=may_Hunk c2 c3 c1
    cases hmb:mayB h.f2 with
    | false =>
     (rw[hmb] at hm);(refine Gives.call hm (hno.eq (by rw[hunkB,hmb];simp)) fun k hk=>?_);show patch_May.l0 (k+1) _ _ _ _=_;rw[patch_May.l0,if_pos (by omega),if_pos (by omega),if_pos (by omega),hrd,if_neg (by omega),hk,Option.bind_some,if_neg (by decide)]
    | true =>
     (rw[hmb] at hm)
     by_cases h1:h.f0.length=marksN h.f2
     ·
      by_cases h2:h.f0.length=firstN l
      ·
       (have hm1:1≤h.f0.length∧h.f0.length≤16:=by rw[h1];exact(mayB_good hmb).2 h0)
       have hne:((h.f0.length:Int) != ((rd_T48 l 0).f0.length:Int))=false:=by
        (have:(h.f0.length:Int)=((rd_T48 l 0).f0.length:Int):=by exact_mod_cast h2);(rw[this];simp)
       obtain⟨a1,a2⟩:=hok.ahead
       have hnext:Gives (fun k=>patch_May.l0 k l l (l.length:Int) ((i+1:Nat):Int)) (mayGo (firstN l) (some h) (l.drop (i+1)))∨hunkB (firstN l) (prevH l i) h=false:=by
        cases hb:hunkB (firstN l) (prevH l i) h with
        | false=>exact .inr rfl
        | true =>
         left;(have e:prevH l (i+1)=some h:=by rw[prevH,if_neg (by omega),Nat.add_sub_cancel,List.getElem?_eq_getElem hil,hh]);have:=ih (i+1) (by omega) (by rw[e];exact hok.next hb)
         rwa [e] at this
       have hall:=all_spans (firstN l) h (prevH l i) h2 (fun g hg=>(hok g hg).1)
       have hhb:hunkB (firstN l) (prevH l i) h=((List.range (firstN l)).all (fun k=>spanB (spP (k:Int) h) (lastP (prevH l i) k) (txP (ofB (k:Int)) h.f2).length) && spanB h.f1 (lastR (prevH l i)) (txP notL h.f2).length):=by
        (rw[hunkB,decide_eq_false h0,hmb,decide_eq_true h1,decide_eq_true h2,h2];rfl)
       have hj2:Gives (fun k=>patch_May.j2 k l (aheadH (firstN l) (prevH l i)) l (l.length:Int) (i:Int) h.f0 h.f1.f0 h.f1.f1 h.f2) (hunkB (firstN l) (prevH l i) h && mayGo (firstN l) (some h) (l.drop (i+1))):=by
        have hl1:Gives (fun k=>patch_May.l1 k l (aheadH (firstN l) (prevH l i)) ((countsH h).map (fun m:Nat=>(m:Int))) l (l.length:Int) (i:Int) (h.f0 ++ [h.f1]) ((h.f0 ++ [h.f1]).length:Int) ((0:Nat):Int)) (hunkB (firstN l) (prevH l i) h && mayGo (firstN l) (some h) (l.drop (i+1))):=by
         (have hlen:(h.f0 ++ [h.f1]).length=firstN l+1:=by rw[List.length_append,List.length_singleton,h2]);(have hC:(countsH h).length=firstN l+1:=by rw[countsH,List.length_append,List.length_map,List.length_range,List.length_singleton,h2])
         rcases hnext with hn|hn
         (· have:=within_l1 (q:=i) (by rw[hlen];exact a1) (by rw[hlen];exact hC) (by rw[hlen];omega) (by omega) a2 hn (firstN l+1) 0 (by rw[hlen];omega);(rw[hall,← hhb] at this);exact this);(· rw[hn,Bool.false_and];exact within_no (by rw[hlen];exact a1) (by rw[hlen];exact hC) (by rw[hlen];omega) a2 (firstN l+1) 0 (by rw[hlen];omega) (by rw[hall,← hhb,hn]))
        obtain⟨K1,k1⟩:=counts_f h b1 b2;obtain⟨K2,k2⟩:=hl1;(dsimp only at k1 k2);(refine Gives.of' (K1+K2) fun k hk=>?_);show patch_May.j2 (k+1) _ _ _ _ _ _ _ _ _=_;rw[patch_May.j2,k1 k (by omega),Option.bind_some,spans_f h b1,Option.bind_some];exact k2 k (by omega)
       have hj1:Gives (fun k=>patch_May.j1 k l (i:Int) l (l.length:Int) (i:Int) false h.f0 h.f1.f0 h.f1.f1 h.f2) (hunkB (firstN l) (prevH l i) h && mayGo (firstN l) (some h) (l.drop (i+1))):=by
        (refine hj2.step fun k=>?_);show patch_May.j1 (k+1) _ _ _ _ _ _ _ _ _ _=_;have ew:wrap64 ((h.f0.length:Int)+1)=((h.f0.length+1:Nat):Int):=gw1 (by omega);rw[patch_May.j1,if_neg (by decide),ew,if_pos (by omega),if_pos (by omega)]
        by_cases hi0:i=0
        (· subst hi0;(rw[if_neg (by decide),Int.toNat_natCast,h2];rfl));(· (have e1:wrap64 ((i:Int) - 1)=((i - 1:Nat):Int):=by rw[gw (by omega) (by omega)];omega);(have hil1:i - 1 < l.length:=by omega);(rw[if_pos (by omega),e1,if_pos (by omega),if_pos (by omega),rdHunk hil1,spans_f _ (hl.2 _ (List.getElem_mem hil1)).1,Option.bind_some,prevH,if_neg hi0,List.getElem?_eq_getElem hil1];rfl))
       (refine Gives.call hm hj1 fun k hk=>?_);show patch_May.l0 (k+1) _ _ _ _=_;rw[patch_May.l0,if_pos (by omega),if_pos (by omega),if_pos (by omega),hrd,if_neg (by omega),hk,Option.bind_some,if_pos rfl,if_pos (by omega),if_pos (by exact_mod_cast h1),if_pos (by omega),hne]
      ·
       have hne:((h.f0.length:Int) != ((rd_T48 l 0).f0.length:Int))=true:=by
        (have : ¬ (h.f0.length:Int)=((rd_T48 l 0).f0.length:Int):=fun e=>h2 (by exact_mod_cast e));simpa using this
       (refine Gives.call hm (hno.eq (by rw[hunkB,decide_eq_false h2];simp)) fun k hk=>?_);show patch_May.l0 (k+1) _ _ _ _=_;rw[patch_May.l0,if_pos (by omega),if_pos (by omega),if_pos (by omega),hrd,if_neg (by omega),hk,Option.bind_some,if_pos rfl,if_pos (by omega),if_pos (by exact_mod_cast h1),if_pos (by omega),hne]
     (· (refine Gives.call hm (hno.eq (by rw[hunkB,decide_eq_false h1];simp)) fun k hk=>?_);show patch_May.l0 (k+1) _ _ _ _=_;rw[patch_May.l0,if_pos (by omega),if_pos (by omega),if_pos (by omega),hrd,if_neg (by omega),hk,Option.bind_some,if_pos rfl,if_pos (by omega),if_neg (fun e=>h1 (by exact_mod_cast e))])
 have:=hloop l.length 0 (by omega) (fun g e=>by cases e);(exact this.same fun k=>rfl)
theorem check_f {l:List Hunk48} (hl:LowH l) (column:Int) {file:List ByteArray} (hf:file.length≤1000000) (hs : ∀ s ∈ file,s.size≤1000000):Gives (fun k=>apply_check.f k l column file) (checkF l column file):=by
 have hj1:Gives (fun k=>apply_check.j0 k l true) 1:=Gives.of fun k=>by
  show apply_check.j0 (k+1) _ _=_;rw[apply_check.j0,if_pos rfl]
 have hj0:Gives (fun k=>apply_check.j0 k l false) (if mayHB l=false then 2 else 0):=by
  (refine Gives.last (may_hunks hl) fun k hk=>?_);show apply_check.j0 (k+1) _ _=_;rw[apply_check.j0,if_neg (by decide),hk,Option.bind_some];(cases mayHB l <;> rfl)
 have hm:=may_gives file (by omega) (fun s h=>by have:=hs s h;omega);rw[checkF]
 by_cases h0:column < 0
 (· rw[if_pos (.inl h0)];(refine hj1.same fun k=>?_);show apply_check.f k l column file=_;rw[apply_check.f,if_pos h0])
 ·
  have hmay : ¬ (0 < l.length∧column ≥ (firstN l:Int))→Gives (fun k=>(lines_May.f k file).bind fun t=>apply_check.j0 k l (!t)) (if column < 0∨(0 < l.length∧column ≥ (firstN l:Int))∨mayL file=false then 1 else if mayHB l=false then 2 else 0):=fun hn=>by
   cases hml:mayL file with
   | true =>
    (rw[hml] at hm);rw[if_neg (by rintro(h|h|h);exact h0 h;exact hn h;cases h)];obtain⟨K1,k1⟩:=hm;obtain⟨K2,k2⟩:=hj0;(dsimp only at k1 k2);exact⟨K1+K2,fun k hk=>by show Option.bind _ _=_;rw[k1 k (by omega),Option.bind_some];exact k2 k (by omega)⟩
   | false =>
    (rw[hml] at hm);rw[if_pos (.inr (.inr rfl))];obtain⟨K1,k1⟩:=hm;obtain⟨K2,k2⟩:=hj1;(dsimp only at k1 k2);exact⟨K1+K2,fun k hk=>by show Option.bind _ _=_;rw[k1 k (by omega),Option.bind_some];exact k2 k (by omega)⟩
  by_cases h1:0 < l.length
  ·
   by_cases h2:column ≥ (firstN l:Int)
   (· rw[if_pos (.inr (.inl ⟨h1,h2⟩))];(refine hj1.same fun k=>?_);show apply_check.f k l column file=_;rw[apply_check.f,if_neg h0,if_pos (by omega),if_pos (by omega),if_pos (show column ≥ ((rd_T48 l 0).f0.length:Int) from h2)]);(· (refine(hmay (fun h=>h2 h.2)).same fun k=>?_);show apply_check.f k l column file=_;rw[apply_check.f,if_neg h0,if_pos (by omega),if_pos (by omega),if_neg (show ¬ column ≥ ((rd_T48 l 0).f0.length:Int) from h2)])
  (· (refine(hmay (fun h=>h1 h.1)).same fun k=>?_);show apply_check.f k l column file=_;rw[apply_check.f,if_neg h0,if_neg (by omega)])
section
variable {R R':List RowH}
theorem cuts_none {x:Nat} (hno : ∀ p,¬ HkP.MarkAt mrkB R p):cutsH R (shownC R x false)=[]:=by
 rw[cutsH,List.map_eq_nil_iff,List.eq_nil_iff_forall_not_mem];rintro⟨f,t⟩ hp;have hg:=((HkP.mem_groupsGo id _ 0 (by omega) (fun j hj=>by omega)).1 hp).2;obtain⟨hj,hq⟩:=hg.2.2.1 f (Nat.le_refl _) hg.1;(rw[shownC_len] at hj);have hs:=shownC_at (rows:=R) (x:=x) (dense:=false) hj;(rw[List.getD_eq_getElem?_getD,List.getElem?_eq_getElem (by rw[shownC_len];exact hj),Option.getD_some] at hs);(rw[show (shownC R x false)[f]'(by rw[shownC_len];exact hj)=true from hq] at hs);obtain⟨gf,gt,hg2,_,_⟩:=(HkP.shownR_iff mrkB (keepB R false) hj).1 hs.symm;exact hno gf (hg2.2.2.1 gf (Nat.le_refl _) hg2.1)
end
section
variable {P:ByteArray→Bool}
end
end Go.Proofs.YthcnfflhejogfaaDoor.X
