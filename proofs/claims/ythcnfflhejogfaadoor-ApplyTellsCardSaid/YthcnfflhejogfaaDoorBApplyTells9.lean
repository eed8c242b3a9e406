/-
  Parts of one proof, one behind the other: XApR, XApV, XApW.
-/
import Derived.Test.YthcnfflhejogfaaDoorBApplyTells8
set_option linter.unusedVariables false
set_option linter.unusedSimpArgs false
set_option maxRecDepth 100000
set_option maxHeartbeats 8000000
namespace Go.Proofs.YthcnfflhejogfaaDoor.X
open Go.RowKit Go.Proofs.YthcnfflhejogfaaDoorW.PrintWords Go.Proofs.YthcnfflhejogfaaDoorW.PrintLast Go.Proofs.YthcnfflhejogfaaDoorW.PrintMore
theorem same01_l0 (a b:List ByteArray) (hl:a.length=b.length) (hm:a.length≤1000000000000) : ∀ (r i:Nat),i+r=a.length→Gives (fun k=>sennitref01_Same.l0 k a b (i:Int)) (decide (a.drop i=b.drop i))
 | 0,i,hi=>Gives.of fun k=>by
  show sennitref01_Same.l0 (k+1) a b (i:Int)=_;rw[sennitref01_Same.l0,if_neg (by omega)];have e1:a.drop i=[]:=List.drop_eq_nil_of_le (by omega);have e2:b.drop i=[]:=List.drop_eq_nil_of_le (by omega);(rw[e1,e2];rfl)
 | r+1,i,hi=>by
  (have ha:i < a.length:=by omega);(have hb:i < b.length:=by omega);have ih:=same01_l0 a b hl hm r (i+1) (by omega);rw[dropCons ha,dropCons hb]
  by_cases e:a[i]=b[i]
  (· rw[e];have e2:decide (b[i] :: a.drop (i+1)=b[i] :: b.drop (i+1))=decide (a.drop (i+1)=b.drop (i+1)):=decide_eq_decide.2 ⟨fun h=>(List.cons.inj h).2,fun h=>by rw[h]⟩;rw[e2];(refine ih.step fun k=>?_);show sennitref01_Same.l0 (k+1) a b _=_;rw[sennitref01_Same.l0,if_pos (by omega),if_pos (by omega),if_pos (by omega),rdOfN ha,rdOfN hb,if_pos (by rw[e]),gw1 (by omega)]);(· have e2:decide (a[i] :: a.drop (i+1)=b[i] :: b.drop (i+1))=false:=decide_eq_false (fun h=>e (List.cons.inj h).1);rw[e2];(refine Gives.of fun k=>?_);show sennitref01_Same.l0 (k+1) a b _=_;rw[sennitref01_Same.l0,if_pos (by omega),if_pos (by omega),if_pos (by omega),rdOfN ha,rdOfN hb,if_neg (fun h=>e (strEq.1 h))])
theorem ref_SameT (a b:List ByteArray) (hm:a.length≤1000000000000):Gives (fun k=>sennitref01_Same.f k a b) (decide (a=b)):=by
 by_cases hl:a.length=b.length
 (· (refine(same01_l0 a b hl hm a.length 0 (by omega)).same fun k=>?_);show sennitref01_Same.f k a b=_;(rw[sennitref01_Same.f,if_pos (by rw[hl])];rfl));(· have e:decide (a=b)=false:=decide_eq_false (fun h=>hl (by rw[h]));rw[e];(refine Gives.pure fun k=>?_);rw[sennitref01_Same.f,if_neg (by omega)])
theorem ref_SameS (a:List ByteArray) (hm:a.length≤1000000000000):Gives (fun k=>sennitref01_Same.f k a a) true:=by
 have:=ref_SameT a a hm
 rwa [decide_eq_true rfl] at this
def FewHL (l:List Hunk48):Prop:=l.length≤6 ∧ ∀ h ∈ l,h.f0.length≤20∧FewR h.f2
theorem ref_Few22 (l:List Hunk48) : ∃ b,Gives (fun k=>sennitref22_Few.f k l) b∧(b=true→FewHL l):=by
 have hloop : ∀ (r i:Nat),i+r=7 → ∃ b,Gives (fun k=>sennitref22_Few.l0 k l (i:Int)) b∧(b=true→l.length≤6 ∧ ∀ j (hj:j < l.length),i≤j→l[j].f0.length≤20∧FewR l[j].f2):=by
  intro r
  induction r with
  | zero =>
   intro i hi;refine⟨decide (l.length≤6),⟨2,fun k hk=>?_⟩,fun h=>?_⟩
   ·
    obtain⟨k,rfl⟩ : ∃ q,k=q+2:=⟨k - 2,by omega⟩;show sennitref22_Few.l0 (k+2) l (i:Int)=_
    have hj:sennitref22_Few.j1 (k+1) l (i:Int) false=some (decide (l.length≤6)):=by
     rw[sennitref22_Few.j1,if_neg (by decide)]
     congr 1
     exact decide_eq_decide.2 (by omega)
    rw[sennitref22_Few.l0];split;(· (rw[decide_eq_false (show ¬ (i:Int) < 7 by omega)];exact hj));(· exact hj)
   (· have h:=of_decide_eq_true h;exact⟨h,fun j hj hij=>by omega⟩)
  | succ r ih =>
   intro i hi
   by_cases hil:i < l.length
   ·
    obtain⟨b,hb1,hb2⟩:=ih (i+1) (by omega);have hf:=ref_FewH l[i].f2;have hrd:rd_T48 l (i:Int)=l[i]:=rdHunk hil
    have hl0 : ∀ k,sennitref22_Few.l0 (k+2) l (i:Int)=(sennitref21_Few.f k l[i].f2).bind fun t368=>(if t368=true then (if ((l[i].f0).length:Int) > 20 then (some false) else (sennitref22_Few.l0 k l ((i+1:Nat):Int))) else (some false)):=fun k=>by
     rw[sennitref22_Few.l0,if_pos (by omega),decide_eq_true (show (i:Int) < 7 by omega),sennitref22_Few.j1,if_pos rfl,if_pos (by omega),if_pos (by omega),hrd,gw1 (by omega)]
    cases hfb:fewRB l[i].f2 with
    | false =>
     (rw[hfb] at hf);obtain⟨K,hK⟩:=hf;refine⟨false,⟨K+2,fun k hk=>?_⟩,fun h=>by cases h⟩;obtain⟨k,rfl⟩ : ∃ q,k=q+2:=⟨k - 2,by omega⟩;show sennitref22_Few.l0 (k+2) l (i:Int)=_;have:=hK k (by omega);(dsimp only at this);rw[hl0,this,Option.bind_some,if_neg (by decide)]
    | true =>
     (rw[hfb] at hf);obtain⟨K,hK⟩:=hf
     by_cases h20:l[i].f0.length≤20
     ·
      obtain⟨K2,hK2⟩:=hb1;refine⟨b,⟨K+K2+2,fun k hk=>?_⟩,fun h=>?_⟩;(· obtain⟨k,rfl⟩ : ∃ q,k=q+2:=⟨k - 2,by omega⟩;show sennitref22_Few.l0 (k+2) l (i:Int)=_;have:=hK k (by omega);(dsimp only at this);rw[hl0,this,Option.bind_some,if_pos rfl,if_neg (by omega)];exact hK2 k (by omega))
      ·
       obtain⟨h1,h2⟩:=hb2 h;refine⟨h1,fun j hj hij=>?_⟩
       by_cases e:j=i
       (· (subst e;exact⟨h20,fewRB_iff hfb⟩));(· exact h2 j hj (by omega))
     (· refine⟨false,⟨K+2,fun k hk=>?_⟩,fun h=>by cases h⟩;obtain⟨k,rfl⟩ : ∃ q,k=q+2:=⟨k - 2,by omega⟩;show sennitref22_Few.l0 (k+2) l (i:Int)=_;have:=hK k (by omega);(dsimp only at this);rw[hl0,this,Option.bind_some,if_pos rfl,if_pos (by omega)])
   ·
    refine⟨decide (l.length≤6),⟨2,fun k hk=>?_⟩,fun h=>?_⟩
    ·
     obtain⟨k,rfl⟩ : ∃ q,k=q+2:=⟨k - 2,by omega⟩;show sennitref22_Few.l0 (k+2) l (i:Int)=_;rw[sennitref22_Few.l0,if_neg (by omega),sennitref22_Few.j1,if_neg (by decide)]
     congr 1
     exact decide_eq_decide.2 (by omega)
    (· have h:=of_decide_eq_true h;exact⟨h,fun j hj hij=>by omega⟩)
 obtain⟨b,h1,h2⟩:=hloop 7 0 (by omega);refine⟨b,h1.same fun k=>rfl,fun h=>?_⟩;obtain⟨h3,h4⟩:=h2 h;exact⟨h3,fun x hx=>by obtain⟨j,hj,rfl⟩:=List.mem_iff_getElem.1 hx;exact h4 j hj (Nat.zero_le _)⟩
theorem FewHL.low {l:List Hunk48} (h:FewHL l):LowH l:=⟨by have:=h.1;omega,fun x hx=>⟨by have:=(h.2 x hx).1;omega,(h.2 x hx).2.low⟩⟩
theorem fwd_f {l:List Hunk48} (hl:LowH l) (c:Int) {file:List ByteArray} (h1:file.length≤100000) (h2 : ∀ s ∈ file,s.size≤1000000):apply_Forward.f l c file=some (runF false l c file):=by
 rw[apply_Forward.f,if_pos (by rw[Bool.and_eq_true];exact⟨lowHB_iff.2 hl,lowFB_iff.2 ⟨h1,h2⟩⟩)]
theorem back_f {l:List Hunk48} (hl:LowH l) (c:Int) {file:List ByteArray} (h1:file.length≤100000) (h2 : ∀ s ∈ file,s.size≤1000000):apply_Back.f l c file=some (runF true l c file):=by
 rw[apply_Back.f,if_pos (by rw[Bool.and_eq_true];exact⟨lowHB_iff.2 hl,lowFB_iff.2 ⟨h1,h2⟩⟩)]
theorem goF_size {spO spN:Spn} {txO txN:Txt} {file:List ByteArray} : ∀ (l:List Hunk48) (out:List ByteArray) (a b:Int),(∀ h ∈ l,∀ s ∈ txN h.f2,s.size≤1000000)→(∀ s ∈ file,s.size≤1000000)→(∀ s ∈ out,s.size≤1000000) → ∀ s ∈ (goF spO spN txO txN file l out a b).1,s.size≤1000000
 | [],out,a,b,hl,hf,ho,s,hs=>by
  (rw[goF] at hs);(split at hs)
  ·
   rcases List.mem_append.1 hs with hs|hs
   (· exact ho s hs);(· exact hf s (List.mem_of_mem_drop hs))
  (· cases hs)
 | h :: t,out,a,b,hl,hf,ho,s,hs=>by
  (rw[goF] at hs);(split at hs)
  ·
   refine goF_size t _ _ _ (fun x hx=>hl x (List.mem_cons_of_mem _ hx)) hf (fun s hs=>?_) s hs
   rcases List.mem_append.1 hs with hs|hs
   (· exact ho s hs)
   ·
    rcases List.mem_append.1 hs with hs|hs
    (· exact hf s (List.mem_of_mem_take (List.mem_of_mem_drop hs)));(· exact hl h List.mem_cons_self s hs)
  (· cases hs)
theorem goF_len {spO spN:Spn} {txO txN:Txt} {file:List ByteArray} {B:Nat} : ∀ (l:List Hunk48) (out:List ByteArray) (a b:Nat),ChainOk spO spN txO txN l a b→out.length=b→b≤2000→(goF spO spN txO txN file l out a b).1.length≤2000+file.length
 | [],out,a,b,_,ho,hb=>by
  rw[goF_nil];split;(· show (out ++ file.drop a).length≤_;(rw[List.length_append,List.length_drop];omega));(· exact Nat.zero_le _)
 | h :: t,out,a,b,⟨f,g,f',g',h1,h2,h3,h4,h5,h6,h7,h8,h9,h10,h11⟩,ho,hb=>by
  rw[goF_cons h1 h2];split;(· rename_i hc;refine goF_len (B:=B) t _ g g' h11 ?_ h8;(rw[List.length_append,List.length_append,cutT_len (by omega),ho,h10];omega));(· exact Nat.zero_le _)
theorem runF_low {back:Bool} {l:List Hunk48} {column:Int} {file:List ByteArray} (hl:LowH l) (h1:file.length≤1000) (h2 : ∀ s ∈ file,s.size≤1000000):(runF back l column file).1.length≤100000 ∧ ∀ s ∈ (runF back l column file).1,s.size≤1000000:=by
 rw[runF];split
 ·
  rename_i hc;have hch:=chain_check hc;split;(· refine⟨?_,goF_size _ _ _ _ (fun h hh=>txP_size (hl.2 h hh).2) h2 (by simp)⟩;have:=goF_len (file:=file) (B:=0) l [] 0 0 hch.swap rfl (by omega);exact Nat.le_trans this (by omega));(· refine⟨?_,goF_size _ _ _ _ (fun h hh=>txP_size (hl.2 h hh).2) h2 (by simp)⟩;have:=goF_len (file:=file) (B:=0) l [] 0 0 hch rfl (by omega);exact Nat.le_trans this (by omega))
 (· exact⟨by simp,by simp⟩)
theorem ref_few20 (file:List ByteArray) (n:Nat) (hn:n≤1000000):Gives (fun k=>sennitref01_Few.f k file (n:Int)) (decide (file.length≤n ∧ ∀ s ∈ file,s.size≤100)):=T20.ref_few01 file n hn
theorem many_neg {R:List RowH} (h:lowB R=true) (hl:R.length≤100000) (i:Int) (hi:i < 0):Gives (fun k=>sennitref22_many.f k R i) ((txP notL R).length:Int):=by
 obtain⟨h1,h2,h3⟩:=lowB_iff h;(refine Gives.last0 (ref_Result20 hl (fun x hx=>by have:=h2 x hx;omega)) fun k hk=>?_);show sennitref22_many.f k R i=_;(rw[sennitref22_many.f,if_pos hi,hk,Option.bind_some];rfl)
theorem many_pos {R:List RowH} (h:lowB R=true) (hl:R.length≤100000) (i:Nat):Gives (fun k=>sennitref22_many.f k R (i:Int)) ((txP (ofB (i:Int)) R).length:Int):=by
 obtain⟨h1,h2,h3⟩:=lowB_iff h;(refine Gives.last0 (ref_Column20 (i:Int) hl (fun x hx=>by have:=h2 x hx;omega)) fun k hk=>?_);show sennitref22_many.f k R (i:Int)=_;(rw[sennitref22_many.f,if_neg (by omega),hk,Option.bind_some];rfl)
def emptyH:Hunk48:=⟨[],⟨0,0⟩,[]⟩
def lastH (last:Option Hunk48):Hunk48:=last.getD emptyH
theorem behind_step {h g:Hunk48} {i:Int} {s:Span45} {x least:Int} {m:Nat} (h0:0≤least) (hs:sennitref22_span.f h.f0 h.f1.f0 h.f1.f1 h.f2 i=some (s.f0,s.f1)) (hl:(0 < g.f0.length∧sennitref22_span.f g.f0 g.f1.f0 g.f1.f1 g.f2 i=some (x,least))∨(g.f0.length=0∧least=0))
    (hm:Gives (fun k=>sennitref22_many.f k h.f2 i) (m:Int)) (hi:i < (h.f0.length:Int)) {b:Bool} (hb:Gives (fun k=>sennitref22_behind.l0 k (wrap64 (i+1)) h.f0 h.f1.f0 h.f1.f1 h.f2 g.f0 g.f1.f0 g.f1.f1 g.f2) b) :
    Gives (fun k=>sennitref22_behind.l0 k i h.f0 h.f1.f0 h.f1.f1 h.f2 g.f0 g.f1.f0 g.f1.f1 g.f2) (spanB s least m && b):=by
 obtain⟨K1,k1⟩:=hm;obtain⟨K2,k2⟩:=hb;(dsimp only at k1 k2)
 have hrest : ∀ k,K1+K2≤k→(if s.f0 < least then (some false) else (if s.f0 > s.f1 then (some false) else (if s.f1 > 2000 then (some false) else ((sennitref22_many.f k h.f2 i).bind fun t108=>(if (wrap64 (s.f1 - s.f0))=t108 then (sennitref22_behind.l0 k (wrap64 (i+1)) h.f0 h.f1.f0 h.f1.f1 h.f2 g.f0 g.f1.f0 g.f1.f1 g.f2) else (some false))))))=some (spanB s least m && b):=fun k hk=>by
  by_cases c1:s.f0 < least
  (· (rw[if_pos c1,spanB,decide_eq_false (by omega)];rfl))
  ·
   rw[if_neg c1]
   by_cases c2:s.f0 > s.f1
   (· (rw[if_pos c2,spanB,decide_eq_false (show ¬ s.f0≤s.f1 by omega)];simp))
   ·
    rw[if_neg c2]
    by_cases c3:s.f1 > 2000
    (· (rw[if_pos c3,spanB,decide_eq_false (show ¬ s.f1≤2000 by omega)];simp))
    ·
     rw[if_neg c3,k1 k (by omega),Option.bind_some,gw (by omega) (by omega)]
     by_cases c4:s.f1 - s.f0=(m:Int)
     (· rw[if_pos c4,k2 k (by omega),spanB_iff.2 ⟨by omega,by omega,by omega,c4⟩,Bool.true_and]);(· (rw[if_neg c4,spanB,decide_eq_false c4];simp))
 (refine Gives.of' (K1+K2) fun k hk=>?_);show sennitref22_behind.l0 (k+1) i h.f0 h.f1.f0 h.f1.f1 h.f2 g.f0 g.f1.f0 g.f1.f1 g.f2=_;rw[sennitref22_behind.l0,if_pos hi,hs,Option.bind_some]
 rcases hl with ⟨h1,h2⟩|⟨h1,h2⟩
 (· rw[if_pos (by omega),h2,Option.bind_some];exact hrest k hk);(· subst h2;rw[if_neg (by omega)];exact hrest k hk)
theorem behind_gives {n0:Nat} {h:Hunk48} {last:Option Hunk48} (hok:OkP n0 last) (hn:h.f0.length=n0) (h1:1≤n0) (h16:n0≤16) (hr:lowB h.f2=true) (hl:h.f2.length≤100000) :
    Gives (fun k=>sennitref22_behind.f k h.f0 h.f1.f0 h.f1.f1 h.f2 (lastH last).f0 (lastH last).f1.f0 (lastH last).f1.f1 (lastH last).f2) (spanB h.f1 (lastR last) (txP notL h.f2).length && (List.range n0).all (fun k=>spanB (spP (k:Int) h) (lastP last k) (txP (ofB (k:Int)) h.f2).length)):=by
 obtain⟨o1,o2⟩:=hok.low
 have hlast:(last=none∧(lastH last).f0.length=0)∨(0 < (lastH last).f0.length∧(lastH last).f0.length=n0 ∧ ∃ g,last=some g∧lastH last=g):=by
  cases last with
  | none=>exact .inl ⟨rfl,rfl⟩
  | some g =>
   have:=(hok g rfl).1;exact .inr ⟨by show 0 < g.f0.length;omega,this,g,rfl,rfl⟩
 have hloop : ∀ (r i:Nat),i+r=n0→Gives (fun k=>sennitref22_behind.l0 k (i:Int) h.f0 h.f1.f0 h.f1.f1 h.f2 (lastH last).f0 (lastH last).f1.f0 (lastH last).f1.f1 (lastH last).f2) ((List.range' i r).all (fun k=>spanB (spP (k:Int) h) (lastP last k) (txP (ofB (k:Int)) h.f2).length)):=by
  intro r
  induction r with
  | zero =>
   intro i hi;(refine Gives.of fun k=>?_);show sennitref22_behind.l0 (k+1) (i:Int) _ _ _ _ _ _ _ _=_;(rw[sennitref22_behind.l0,if_neg (by omega)];rfl)
  | succ r ih =>
   intro i hi;have ih:=ih (i+1) (by omega);rw[List.range'_succ,List.all_cons];refine behind_step (s:=spP (i:Int) h) (least:=lastP last i) (x:=(rd_T45 (lastH last).f0 (i:Int)).f0) (o1 i (by omega)) ?_ ?_ (many_pos hr hl i) (by omega) (by rw[gw1 (by omega)];exact ih);(· (rw[sennitref22_span.f,if_neg (by omega),if_pos (by omega),if_pos (by omega)];rfl))
   ·
    rcases hlast with ⟨e,h2⟩|⟨h2,h3,g,e1,e2⟩
    (· (right;subst e;exact⟨h2,rfl⟩));(· left;refine⟨h2,?_⟩;rw[sennitref22_span.f,if_neg (by omega),if_pos (by omega),if_pos (by omega)];(subst e1;rfl))
 have h0:=hloop n0 0 (by omega);(rw[← List.range_eq_range'] at h0)
 have:=behind_step (h:=h) (g:=lastH last) (i := -1) (s:=h.f1) (least:=lastR last) (x:=(lastH last).f1.f0) (m:=(txP notL h.f2).length) o2 (by rw[sennitref22_span.f,if_pos (by decide)]) (by
  rcases hlast with ⟨e,h2⟩|⟨h2,h3,g,e1,e2⟩
  (· (right;subst e;exact⟨h2,rfl⟩))
  ·
   left;refine⟨h2,?_⟩;rw[sennitref22_span.f,if_pos (by decide)]
   subst e1;rfl) (many_neg hr hl (-1) (by decide)) (by omega) (b:=(List.range n0).all (fun k=>spanB (spP (k:Int) h) (lastP last k) (txP (ofB (k:Int)) h.f2).length)) (by
  have e:wrap64 (-1+1)=((0:Nat):Int):=gw (by decide) (by decide)
  rw[e];exact h0)
 (exact this.same fun k=>rfl)
theorem ref_May22 {l:List Hunk48} (hl:LowH l) (hrow : ∀ h ∈ l,h.f2.length≤100000):Gives (fun k=>sennitref22_May.f k l) (mayHB l):=by
 have hloop : ∀ (r i:Nat),i+r=l.length→OkP (firstN l) (prevH l i)→Gives (fun k=>sennitref22_May.l0 k l (i:Int)) (mayGo (firstN l) (prevH l i) (l.drop i)):=by
  intro r
  induction r with
  | zero =>
   intro i hi _;rw[List.drop_of_length_le (by omega)];(refine Gives.of fun k=>?_);show sennitref22_May.l0 (k+1) _ _=_;(rw[sennitref22_May.l0,if_neg (by omega)];rfl)
  | succ r ih =>
   intro i hi hok;(have hil:i < l.length:=by omega);obtain⟨h,hh⟩ : ∃ h,l[i]=h:=⟨_,rfl⟩;(have hmem:h ∈ l:=by rw[← hh];exact List.getElem_mem hil);obtain⟨b1,b2⟩:=hl.2 h hmem;obtain⟨c1,c2,c3⟩:=lowB_iff b2;have hll:=hl.1;(have hrd:rd_T48 l (i:Int)=h:=by rw[rdHunk hil,hh]);rw[dropCons hil,hh,mayGo]
   have hno:Gives (fun k=>sennitref22_May.j1 k l (i:Int) true h.f0 h.f1.f0 h.f1.f1 h.f2) false:=Gives.of fun k=>by
    show sennitref22_May.j1 (k+1) _ _ _ _ _ _ _=_;rw[sennitref22_May.j1,if_pos rfl]
   by_cases h0:h.f2=[]
   (· (refine(hno.eq (by rw[hunkB,decide_eq_true h0];rfl)).step fun k=>?_);show sennitref22_May.l0 (k+1) _ _=_;rw[sennitref22_May.l0,if_pos (by omega),if_pos (by omega),hrd,if_pos (by rw[h0];rfl)])
   ·
    have hpos:0 < h.f2.length:=List.length_pos_iff.2 h0;have hm:=ref_MayH c2 c3 c1
    cases hmb:mayB h.f2 with
    | false =>
     (rw[hmb] at hm);(refine Gives.call hm (hno.eq (by rw[hunkB,hmb];simp)) fun k hk=>?_);show sennitref22_May.l0 (k+1) _ _=_;rw[sennitref22_May.l0,if_pos (by omega),if_pos (by omega),hrd,if_neg (by omega),hk,Option.bind_some,if_neg (by decide)]
    | true =>
     (rw[hmb] at hm)
     by_cases h1:h.f0.length=marksN h.f2
     ·
      by_cases h2:h.f0.length=firstN l
      ·
       (have hm1:1≤h.f0.length∧h.f0.length≤16:=by rw[h1];exact(mayB_good hmb).2 h0)
       have hne:((h.f0.length:Int) != ((rd_T48 l 0).f0.length:Int))=false:=by
        (have:(h.f0.length:Int)=((rd_T48 l 0).f0.length:Int):=by exact_mod_cast h2);(rw[this];simp)
       have hhb:hunkB (firstN l) (prevH l i) h=(spanB h.f1 (lastR (prevH l i)) (txP notL h.f2).length && (List.range (firstN l)).all (fun k=>spanB (spP (k:Int) h) (lastP (prevH l i) k) (txP (ofB (k:Int)) h.f2).length)):=by
        (rw[hunkB,decide_eq_false h0,hmb,decide_eq_true h1,decide_eq_true h2,h2,Bool.and_comm (spanB _ _ _)];rfl)
       have hbh:=behind_gives hok h2 (by omega) (by omega) b2 (hrow h hmem);(rw[← hhb] at hbh)
       have hj1:Gives (fun k=>sennitref22_May.j1 k l (i:Int) false h.f0 h.f1.f0 h.f1.f1 h.f2) (hunkB (firstN l) (prevH l i) h && mayGo (firstN l) (some h) (l.drop (i+1))):=by
        obtain⟨K1,k1⟩:=hbh;(dsimp only at k1)
        have hfin : ∃ K,∀ k,K≤k→(if hunkB (firstN l) (prevH l i) h=true then (sennitref22_May.l0 k l (wrap64 ((i:Int)+1))) else (some false))=some (hunkB (firstN l) (prevH l i) h && mayGo (firstN l) (some h) (l.drop (i+1))):=by
         cases hb:hunkB (firstN l) (prevH l i) h with
         | false=>exact⟨0,fun k _=>by rw[if_neg (by decide),Bool.false_and]⟩
         | true =>
          (have e:prevH l (i+1)=some h:=by rw[prevH,if_neg (by omega),Nat.add_sub_cancel,List.getElem?_eq_getElem hil,hh]);have:=ih (i+1) (by omega) (by rw[e];exact hok.next hb);(rw[e] at this);obtain⟨K,hK⟩:=this;exact⟨K,fun k hk=>by rw[if_pos rfl,Bool.true_and,gw1 (by omega)];exact hK k hk⟩
        obtain⟨K2,k2⟩:=hfin;(refine Gives.of' (K1+K2) fun k hk=>?_);show sennitref22_May.j1 (k+1) _ _ _ _ _ _ _=_;rw[sennitref22_May.j1,if_neg (by decide)];have q1:=k1 k (by omega);have q2:=k2 k (by omega)
        by_cases hi0:i=0
        (· subst hi0;have el:lastH (prevH l 0)=emptyH:=rfl;(rw[el] at q1);have q1:sennitref22_behind.f k h.f0 h.f1.f0 h.f1.f1 h.f2 ([]:List Span45) 0 0 ([]:List RowH)=some (hunkB (firstN l) (prevH l 0) h):=q1;rw[if_neg (by decide),q1,Option.bind_some];exact q2);(· (have e1:wrap64 ((i:Int) - 1)=((i - 1:Nat):Int):=by rw[gw (by omega) (by omega)];omega);(have hil1:i - 1 < l.length:=by omega);(have el:lastH (prevH l i)=l[i - 1]:=by rw[prevH,if_neg hi0,List.getElem?_eq_getElem hil1];rfl);(rw[el] at q1);rw[if_pos (by omega),e1,if_pos (by omega),if_pos (by omega),rdHunk hil1,q1,Option.bind_some];exact q2)
       (refine Gives.call hm hj1 fun k hk=>?_);show sennitref22_May.l0 (k+1) _ _=_;rw[sennitref22_May.l0,if_pos (by omega),if_pos (by omega),hrd,if_neg (by omega),hk,Option.bind_some,if_pos rfl,if_pos (by omega),if_pos (by exact_mod_cast h1),if_pos (by omega),hne]
      ·
       have hne:((h.f0.length:Int) != ((rd_T48 l 0).f0.length:Int))=true:=by
        (have : ¬ (h.f0.length:Int)=((rd_T48 l 0).f0.length:Int):=fun e=>h2 (by exact_mod_cast e));simpa using this
       (refine Gives.call hm (hno.eq (by rw[hunkB,decide_eq_false h2];simp)) fun k hk=>?_);show sennitref22_May.l0 (k+1) _ _=_;rw[sennitref22_May.l0,if_pos (by omega),if_pos (by omega),hrd,if_neg (by omega),hk,Option.bind_some,if_pos rfl,if_pos (by omega),if_pos (by exact_mod_cast h1),if_pos (by omega),hne]
     (· (refine Gives.call hm (hno.eq (by rw[hunkB,decide_eq_false h1];simp)) fun k hk=>?_);show sennitref22_May.l0 (k+1) _ _=_;rw[sennitref22_May.l0,if_pos (by omega),if_pos (by omega),hrd,if_neg (by omega),hk,Option.bind_some,if_pos rfl,if_pos (by omega),if_neg (fun e=>h1 (by exact_mod_cast e))])
 have:=hloop l.length 0 (by omega) (fun g e=>by cases e);(exact this.same fun k=>rfl)
theorem ref_check23 {l:List Hunk48} (hl:LowH l) (hrow : ∀ h ∈ l,h.f2.length≤100000) (c:Int) {file:List ByteArray} (hf:file.length≤1000000) (hs : ∀ s ∈ file,s.size≤1000000):Gives (fun k=>sennitref23_check.f k l c file) (checkF l c file):=by
 have hj1:Gives (fun k=>sennitref23_check.j0 k l c true) 1:=Gives.of fun k=>by
  show sennitref23_check.j0 (k+1) _ _ _=_;rw[sennitref23_check.j0,if_pos rfl]
 have hjt:Gives (fun k=>sennitref23_check.j1 k l true) 1:=Gives.of fun k=>by
  show sennitref23_check.j1 (k+1) _ _=_;rw[sennitref23_check.j1,if_pos rfl]
 have hjf:Gives (fun k=>sennitref23_check.j1 k l false) (if mayHB l=false then 2 else 0):=by
  (refine Gives.last (ref_May22 hl hrow) fun k hk=>?_);show sennitref23_check.j1 (k+1) _ _=_;rw[sennitref23_check.j1,if_neg (by decide),hk,Option.bind_some];(cases mayHB l <;> rfl)
 have hm:=ref_May01 file hf hs;rw[checkF]
 by_cases h0:c < 0
 (· rw[if_pos (.inl h0)];(refine hj1.same fun k=>?_);show sennitref23_check.f k l c file=_;rw[sennitref23_check.f,if_pos h0])
 ·
  cases hml:mayL file with
  | false =>
   (rw[hml] at hm);rw[if_pos (.inr (.inr rfl))];(refine Gives.call0 hm hj1 fun k hk=>?_);show sennitref23_check.f k l c file=_;(rw[sennitref23_check.f,if_neg h0,hk,Option.bind_some];rfl)
  | true =>
   (rw[hml] at hm)
   have hj:Gives (fun k=>sennitref23_check.j0 k l c false) (if c < 0∨(0 < l.length∧c ≥ (firstN l:Int))∨true=false then 1 else if mayHB l=false then 2 else 0):=by
    by_cases h1:0 < l.length
    ·
     by_cases h2:c ≥ (firstN l:Int)
     (· rw[if_pos (.inr (.inl ⟨h1,h2⟩))];(refine hjt.step fun k=>?_);show sennitref23_check.j0 (k+1) _ _ _=_;rw[sennitref23_check.j0,if_neg (by decide),if_pos (by omega),if_pos (by omega),decide_eq_true (show c ≥ ((rd_T48 l 0).f0.length:Int) from h2)]);(· rw[if_neg (by rintro(h|h|h);exact h0 h;exact h2 h.2;cases h)];(refine hjf.step fun k=>?_);show sennitref23_check.j0 (k+1) _ _ _=_;rw[sennitref23_check.j0,if_neg (by decide),if_pos (by omega),if_pos (by omega),decide_eq_false (show ¬ c ≥ ((rd_T48 l 0).f0.length:Int) from h2)])
    (· rw[if_neg (by rintro(h|h|h);exact h0 h;exact h1 h.1;cases h)];(refine hjf.step fun k=>?_);show sennitref23_check.j0 (k+1) _ _ _=_;rw[sennitref23_check.j0,if_neg (by decide),if_neg (by omega)])
   (refine Gives.call0 hm hj fun k hk=>?_);show sennitref23_check.f k l c file=_;(rw[sennitref23_check.f,if_neg h0,hk,Option.bind_some];rfl)
def oldS (back:Bool) (c:Int):Spn:=if back=true then spR else spP c
def newS (back:Bool) (c:Int):Spn:=if back=true then spP c else spR
def oldT (back:Bool) (c:Int):Txt:=if back=true then txP notL else txP (ofB c)
def newT (back:Bool) (c:Int):Txt:=if back=true then txP (ofB c) else txP notL
theorem runF_one (back:Bool) (l:List Hunk48) (c:Int) (file:List ByteArray) (h:checkF l c file=0):runF back l c file=goF (oldS back c) (newS back c) (oldT back c) (newT back c) file l [] 0 0:=by
 rw[runF,if_pos h];(cases back <;> rfl)
theorem texts23 {h:Hunk48} (hr:lowB h.f2=true) (hl:h.f2.length≤100000) (c:Nat) (back:Bool):Gives (fun k=>sennitref23_texts.f k h.f0 h.f1.f0 h.f1.f1 h.f2 (c:Int) back) (oldT back (c:Int) h.f2):=by
 obtain⟨h1,h2,h3⟩:=lowB_iff hr
 cases back with
 | true =>
  (refine Gives.last0 (ref_Result20 hl (fun x hx=>by have:=h2 x hx;omega)) fun k hk=>?_);show sennitref23_texts.f k _ _ _ _ _ true=_;(rw[sennitref23_texts.f,if_pos rfl,hk,Option.bind_some];rfl)
 | false =>
  (refine Gives.last0 (ref_Column20 (c:Int) hl (fun x hx=>by have:=h2 x hx;omega)) fun k hk=>?_);show sennitref23_texts.f k _ _ _ _ _ false=_;(rw[sennitref23_texts.f,if_neg (by decide),hk,Option.bind_some];rfl)
theorem spans23 {h:Hunk48} {c:Nat} (hc:c < h.f0.length) (back:Bool):sennitref23_spans.f h.f0 h.f1.f0 h.f1.f1 h.f2 (c:Int) back=some ((oldS back (c:Int) h).f0,(oldS back (c:Int) h).f1,(newS back (c:Int) h).f0,(newS back (c:Int) h).f1):=by
 rw[sennitref23_spans.f]
 cases back with
 | true=>rw[if_pos rfl,if_pos (by omega),if_pos (by omega)];rfl
 | false=>rw[if_neg (by decide),if_pos (by omega),if_pos (by omega)];rfl
theorem newT_not (back:Bool) (c:Int):newT back c=oldT (!back) c:=by cases back <;> rfl
theorem ref_run23 {l:List Hunk48} (hl:LowH l) (hrow : ∀ h ∈ l,h.f2.length≤100000) (c:Int) {file:List ByteArray} (hf:file.length≤100000) (hs : ∀ s ∈ file,s.size≤1000000) (back:Bool):Gives (fun k=>sennitref23_run.f k l c file back) (runF back l c file):=by
 have hck:=ref_check23 hl hrow c (file:=file) (by omega) hs
 by_cases h0:checkF l c file=0
 ·
  rw[runF_one back l c file h0]
  have hch:ChainOk (oldS back c) (newS back c) (oldT back c) (newT back c) l 0 0:=by
   have:=chain_check h0
   cases back with
   | true=>exact this.swap
   | false=>exact this
  obtain⟨k1,k2,k3,k4⟩:=checkF_0.1 h0;obtain⟨cn,rfl⟩ : ∃ n:Nat,c=(n:Int):=⟨c.toNat,by omega⟩
  have hin : ∀ h ∈ l,cn < h.f0.length:=fun h hh=>by
   have h1:=mayGo_len (firstN l) l none k4 h hh;have h2:=k2 (by rcases List.mem_iff_getElem.1 hh with ⟨q,hq,_⟩;omega);omega
  have hnew : ∀ h ∈ l,∀ s ∈ newT back (cn:Int) h.f2,s.size≤1000000:=fun h hh=>by
   cases back with
   | true=>exact txP_size (hl.2 h hh).2
   | false=>exact txP_size (hl.2 h hh).2
  have hl0:=hl.1
  have hloop : ∀ (r i:Nat) (out:List ByteArray) (a b:Nat),i+r=l.length→ChainOk (oldS back cn) (newS back cn) (oldT back cn) (newT back cn) (l.drop i) a b→out.length=b→b≤2000→a≤file.length→(∀ s ∈ out,s.size≤1000000) →
   Gives (fun k=>sennitref23_run.l0 k l (cn:Int) file back out (a:Int) (i:Int)) (goF (oldS back cn) (newS back cn) (oldT back cn) (newT back cn) file (l.drop i) out a b):=by
   intro r
   induction r with
   | zero =>
    intro i out a b hi hC ho hb ha hso;rw[List.drop_of_length_le (by omega),goF_nil]
    have hm:=ref_May01 (out ++ file.drop a) (by rw[List.length_append,List.length_drop];omega) (fun s h=>by
     rcases List.mem_append.1 h with h|h
     (· exact hso s h)
     ·
      exact hs s (List.mem_of_mem_drop h))
    (refine Gives.last hm fun k hk=>?_);show sennitref23_run.l0 (k+1) l (cn:Int) file back out (a:Int) (i:Int)=_;rw[sennitref23_run.l0,if_neg (by omega),if_pos (by omega),if_pos (by omega),Int.toNat_natCast,if_pos (by rw[List.length_drop];omega),Option.bind_some,hk,Option.bind_some];(cases mayL (out ++ file.drop a) <;> rfl)
   | succ r ih =>
    intro i out a b hi hC ho hb ha hso;(have hil:i < l.length:=by omega);obtain⟨h,hh⟩ : ∃ h,l[i]=h:=⟨_,rfl⟩;(have hmem:h ∈ l:=by rw[← hh];exact List.getElem_mem hil);(have hrd:rd_T48 l (i:Int)=h:=by rw[rdHunk hil,hh]);(rw[dropCons hil,hh] at hC ⊢);obtain⟨f,g,f',g',e1,e2,q1,q2,q3,q4,q5,q6,q7,q8,hC2⟩:=hC;rw[goF_cons e1 e2];have hsp:=spans23 (hin h hmem) back;(rw[e1,e2] at hsp);(dsimp only at hsp);obtain⟨K1,k1'⟩:=texts23 (hl.2 h hmem).2 (hrow h hmem) cn back;obtain⟨K2,k2'⟩:=texts23 (hl.2 h hmem).2 (hrow h hmem) cn (!back);(rw[← newT_not] at k2');(dsimp only at k1' k2')
    have hjt:Gives (fun k=>sennitref23_run.j1 k l (cn:Int) file back out (a:Int) (i:Int) true (f:Int) (g:Int) (f':Int) (g':Int)) ([],7):=Gives.of fun k=>by
     show sennitref23_run.j1 (k+1) _ _ _ _ _ _ _ _ _ _ _ _=_;rw[sennitref23_run.j1,if_pos rfl]
    by_cases hgl:g≤file.length
    ·
     obtain⟨K3,k3'⟩:=ref_SameT (cutT file f g) (oldT back (cn:Int) h.f2) (by rw[cutT_len hgl];omega);(dsimp only at k3')
     by_cases hq:cutT file f g=oldT back (cn:Int) h.f2
     ·
      (rw[decide_eq_true hq] at k3');have hcl:(cutT file a f).length=f - a:=cutT_len (by omega);have hcl2:((file.take f).drop a).length=f - a:=hcl
      have hjf:Gives (fun k=>sennitref23_run.j1 k l (cn:Int) file back out (a:Int) (i:Int) false (f:Int) (g:Int) (f':Int) (g':Int)) (if g≤file.length∧cutT file f g=oldT back (cn:Int) h.f2∧(f:Int) - a=(f':Int) - b then goF (oldS back cn) (newS back cn) (oldT back cn) (newT back cn) file (l.drop (i+1)) (out ++ (cutT file a f ++ newT back cn h.f2)) (g:Int) (g':Int) else ([],7)):=by
       by_cases hd:(f:Int) - a=(f':Int) - b
       ·
        rw[if_pos ⟨hgl,hq,hd⟩]
        have hn:=ih (i+1) (out ++ (cutT file a f ++ newT back cn h.f2)) g g' (by omega) hC2 (by rw[List.length_append,List.length_append,hcl,q8,ho];omega) q6 hgl (fun s hs'=>by
         rcases List.mem_append.1 hs' with h1|h1
         (· exact hso s h1)
         ·
          rcases List.mem_append.1 h1 with h1|h1
          (· exact hs s (List.mem_of_mem_take (List.mem_of_mem_drop h1)))
          ·
           exact hnew h hmem s h1)
        obtain⟨K4,k4'⟩:=hn;(dsimp only at k4');(refine Gives.of' (K2+K4) fun k hk=>?_);show sennitref23_run.j1 (k+1) _ _ _ _ _ _ _ _ _ _ _ _=_;rw[sennitref23_run.j1,if_neg (by decide),if_pos (by omega),if_pos (by omega),if_pos (by omega),Int.toNat_natCast,Int.toNat_natCast,if_pos (by rw[hcl2];omega),Option.bind_some,if_pos (by rw[List.length_append,hcl2,ho];omega),if_pos (by omega),if_pos (by omega),hrd,k2' k (by omega),Option.bind_some,if_pos (by rw[List.length_append,hcl2,q8];omega),gw1 (by omega),List.append_assoc];exact k4' k (by omega)
       (· rw[if_neg (fun x=>hd x.2.2)];(refine Gives.of fun k=>?_);show sennitref23_run.j1 (k+1) _ _ _ _ _ _ _ _ _ _ _ _=_;rw[sennitref23_run.j1,if_neg (by decide),if_pos (by omega),if_pos (by omega),if_pos (by omega),Int.toNat_natCast,Int.toNat_natCast,if_pos (by rw[hcl2];omega),Option.bind_some,if_neg (by rw[List.length_append,hcl2,ho];omega)])
      obtain⟨K5,k5'⟩:=hjf;(dsimp only at k5');(refine Gives.of' (K1+K3+K5) fun k hk=>?_);show sennitref23_run.l0 (k+1) l (cn:Int) file back out (a:Int) (i:Int)=_;rw[sennitref23_run.l0,if_pos (by omega),if_pos (by omega),hrd,hsp,Option.bind_some,if_neg (by show ¬ (g:Int) > (file.length:Int);omega),if_pos (by show (0:Int)≤(f:Int);omega),if_pos (by show (f:Int)≤(g:Int);omega),if_pos (by show (g:Int)≤(file.length:Int);omega),k1' k (by omega),Option.bind_some,Int.toNat_natCast,Int.toNat_natCast];have h3:=k3' k (by omega);(rw[cutT] at h3);rw[h3,Option.bind_some];exact k5' k (by omega)
     (· (rw[decide_eq_false hq] at k3');rw[if_neg (fun x=>hq x.2.1)];obtain⟨K5,k5'⟩:=hjt;(dsimp only at k5');(refine Gives.of' (K1+K3+K5) fun k hk=>?_);show sennitref23_run.l0 (k+1) l (cn:Int) file back out (a:Int) (i:Int)=_;rw[sennitref23_run.l0,if_pos (by omega),if_pos (by omega),hrd,hsp,Option.bind_some,if_neg (by show ¬ (g:Int) > (file.length:Int);omega),if_pos (by show (0:Int)≤(f:Int);omega),if_pos (by show (f:Int)≤(g:Int);omega),if_pos (by show (g:Int)≤(file.length:Int);omega),k1' k (by omega),Option.bind_some,Int.toNat_natCast,Int.toNat_natCast];have h3:=k3' k (by omega);(rw[cutT] at h3);rw[h3,Option.bind_some];exact k5' k (by omega))
    (· rw[if_neg (fun x=>hgl x.1)];(refine hjt.step fun k=>?_);show sennitref23_run.l0 (k+1) l (cn:Int) file back out (a:Int) (i:Int)=_;rw[sennitref23_run.l0,if_pos (by omega),if_pos (by omega),hrd,hsp,Option.bind_some,if_pos (by show (g:Int) > (file.length:Int);omega)])
  have h1:=hloop l.length 0 [] 0 0 (by omega) hch rfl (by omega) (Nat.zero_le _) (by simp);(rw[h0] at hck);(refine Gives.call0 hck h1 fun k hk=>?_);show sennitref23_run.f k l (cn:Int) file back=_;(rw[sennitref23_run.f,hk,Option.bind_some,if_pos rfl];rfl)
 (· rw[runF,if_neg h0];(refine Gives.last0 hck fun k hk=>?_);show sennitref23_run.f k l c file back=_;rw[sennitref23_run.f,hk,Option.bind_some,if_neg h0])
theorem fwd23 {l:List Hunk48} (hl:LowH l) (hrow : ∀ h ∈ l,h.f2.length≤100000) (c:Int) {file:List ByteArray} (hf:file.length≤100000) (hs : ∀ s ∈ file,s.size≤1000000):Gives (fun k=>sennitref23_Forward.f k l c file) (runF false l c file):=by
 (refine Gives.last0 (ref_run23 hl hrow c hf hs false) fun k hk=>?_);show sennitref23_Forward.f k l c file=_;rw[sennitref23_Forward.f,hk,Option.bind_some]
theorem back23 {l:List Hunk48} (hl:LowH l) (hrow : ∀ h ∈ l,h.f2.length≤100000) (c:Int) {file:List ByteArray} (hf:file.length≤100000) (hs : ∀ s ∈ file,s.size≤1000000):Gives (fun k=>sennitref23_Back.f k l c file) (runF true l c file):=by
 (refine Gives.last0 (ref_run23 hl hrow c hf hs true) fun k hk=>?_);show sennitref23_Back.f k l c file=_;rw[sennitref23_Back.f,hk,Option.bind_some]
theorem tells23 (l:List Hunk48) (c:Int) (file:List ByteArray):Gives (fun k=>sennitlaw23_ApplyTells.f k l c file) true:=by
 obtain⟨b,hb1,hb2⟩:=ref_Few22 l;have hw:=sennitlaw23_awake.true_
 have hj1:Gives (fun k=>sennitlaw23_ApplyTells.j0 k l c file true true) true:=Gives.of fun k=>by
  show sennitlaw23_ApplyTells.j0 (k+1) l c file true true=_;rw[sennitlaw23_ApplyTells.j0,if_pos rfl]
 cases b with
 | false =>
  (refine Gives.call0 hb1 hj1 fun k hk=>?_);show sennitlaw23_ApplyTells.f k l c file=_;rw[sennitlaw23_ApplyTells.f,hw,Option.bind_some,hk,Option.bind_some,if_neg (by decide)]
 | true =>
  have hFew:=hb2 rfl;have hL:=hFew.low;(have hrow : ∀ h ∈ l,h.f2.length≤100000:=fun h hh=>by have:=(hFew.2 h hh).2.1;omega);have hf:=ref_few20 file 20 (by omega);obtain⟨K1,k1⟩:=hb1;obtain⟨K2,k2⟩:=hf;(dsimp only at k1 k2)
  by_cases hq:file.length≤20 ∧ ∀ s ∈ file,s.size≤100
  ·
   (rw[decide_eq_true hq] at k2);obtain⟨hq1,hq2⟩:=hq;(have hz : ∀ s ∈ file,s.size≤1000000:=fun s hs=>by have:=hq2 s hs;omega);obtain⟨K3,k3⟩:=fwd23 hL hrow c (file:=file) (by omega) hz;obtain⟨K4,k4⟩:=back23 hL hrow c (file:=file) (by omega) hz;have hlA:=runF_low (back:=false) (column:=c) hL (by omega) hz (file:=file);have hlB:=runF_low (back:=true) (column:=c) hL (by omega) hz (file:=file);have hfw:=fwd_f hL c (file:=file) (by omega) hz;have hbk:=back_f hL c (file:=file) (by omega) hz;obtain⟨A,hA⟩ : ∃ A,runF false l c file=A:=⟨_,rfl⟩;obtain⟨B,hB⟩ : ∃ B,runF true l c file=B:=⟨_,rfl⟩;(rw[hA] at k3 hlA hfw);(rw[hB] at k4 hlB hbk);obtain⟨K5,k5⟩:=ref_SameS A.1 (by omega);obtain⟨K6,k6⟩:=ref_SameS B.1 (by omega);(dsimp only at k3 k4 k5 k6)
   have hj:Gives (fun k=>sennitlaw23_ApplyTells.j0 k l c file true false) true:=by
    (refine Gives.of' (K3+K4+K5+K6) fun k hk=>?_);show sennitlaw23_ApplyTells.j0 (k+1) l c file true false=_;rw[sennitlaw23_ApplyTells.j0,if_neg (by decide),hfw,Option.bind_some,k3 k (by omega),Option.bind_some,hbk,Option.bind_some,k4 k (by omega),Option.bind_some,if_pos rfl,if_pos rfl,k5 k (by omega),Option.bind_some,if_pos rfl,if_pos rfl,k6 k (by omega),Option.bind_some]
   obtain⟨K7,k7⟩:=hj;(dsimp only at k7);refine⟨K1+K2+K7,fun k hk=>?_⟩;show sennitlaw23_ApplyTells.f k l c file=_;have:=k2 k (by omega);rw[sennitlaw23_ApplyTells.f,hw,Option.bind_some,k1 k (by omega),Option.bind_some,if_pos rfl,show (20:Int)=((20:Nat):Int) from rfl,this,Option.bind_some];exact k7 k (by omega)
  (· (rw[decide_eq_false hq] at k2);obtain⟨K7,k7⟩:=hj1;(dsimp only at k7);refine⟨K1+K2+K7,fun k hk=>?_⟩;show sennitlaw23_ApplyTells.f k l c file=_;have:=k2 k (by omega);rw[sennitlaw23_ApplyTells.f,hw,Option.bind_some,k1 k (by omega),Option.bind_some,if_pos rfl,show (20:Int)=((20:Nat):Int) from rfl,this,Option.bind_some];exact k7 k (by omega))
theorem law_ApplyTells (W:World) (hm:MaxAt W) (A0:Option Addr) (c0:Nat) (l0:List S48) (hr0:Kd.C k48 W A0 l0.length l0) (hc0:l0.length≤c0) (g0:l0.length * 64≤140737488351232 ∧ ∀ y ∈ l0,(((fun x:S48=>(x.f0,x.f1,x.f2)) y).1.length * 16≤140737488351232 ∧ ∀ yy ∈ ((fun x:S48=>(x.f0,x.f1,x.f2)) y).1,((Lit.int .i64 ((fun x:S45=>(x.f0,x.f1)) yy).1).wf=true)∧((Lit.int .i64 ((fun x:S45=>(x.f0,x.f1)) yy).2).wf=true))∧(((Lit.int .i64 ((fun x:S45=>(x.f0,x.f1)) ((fun x:S48=>(x.f0,x.f1,x.f2)) y).2.1).1).wf=true)∧((Lit.int .i64 ((fun x:S45=>(x.f0,x.f1)) ((fun x:S48=>(x.f0,x.f1,x.f2)) y).2.1).2).wf=true))∧(((fun x:S48=>(x.f0,x.f1,x.f2)) y).2.2.length * 32≤140737488351232 ∧ ∀ yy ∈ ((fun x:S48=>(x.f0,x.f1,x.f2)) y).2.2,(((fun x:S57=>(x.f0,x.f1)) yy).1.size≤140737488351232)∧(((fun x:S57=>(x.f0,x.f1)) yy).2.size≤140737488351232))) (x1:Int) (g1:(Lit.int .i64 x1).wf=true) (A2:Option Addr) (c2:Nat) (l2:List ByteArray) (hr2:Kd.C Kd.string W A2 l2.length l2) (hc2:l2.length≤c2) (g2:l2.length * 16≤140737488351232 ∧ ∀ y ∈ l2,y.size≤140737488351232) :
    Calls Tryd.prog 3 #[.slice A0 l0.length c0, .int .i64 x1, .slice A2 l2.length c2] W fun e w'=>e = .returned (.bool true)∧Below W.heap.size W w':=by
 obtain⟨k,hk⟩:=tells23 l0 x1 l2;exact sennitlaw23_ApplyTells.calls k A0 c0 l0 x1 A2 c2 l2 true W hr0 hc0 hr2 hc2 (hk k (Nat.le_refl _))
end Go.Proofs.YthcnfflhejogfaaDoor.X
