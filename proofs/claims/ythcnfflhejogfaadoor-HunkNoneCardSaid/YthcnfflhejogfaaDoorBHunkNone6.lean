/-
  Parts of one proof, one behind the other: XHk2, XHk3, XHk4, XHk5, XHk6, XHk7, XHs1, XHr2, XCard, XHk8, XHk9, XHkA, XHkC, XHr4, XHkB, XHr5, XKn1.
-/
import Derived.Test.YthcnfflhejogfaaDoorBHunkNone5
import Derived.Handed
import Derived.Shelf.Vars
import Derived.Lib.CountLaws
import Derived.Lib.IndexBytes
import Derived.Lib.IndexLaws
import Derived.WalkMore
import Derived.Handy
import Derived.LoopIn
import Derived.Maps.OwnIn
import Derived.Maps.AppendAt
import Derived.Lib.SliceRun
set_option linter.unusedVariables false
set_option linter.unusedSimpArgs false
set_option maxRecDepth 100000
set_option maxHeartbeats 8000000
namespace Go.Proofs.YthcnfflhejogfaaDoor.X
open Go.RowKit Go.Proofs.YthcnfflhejogfaaDoorW.PrintWords Go.Proofs.YthcnfflhejogfaaDoorW.PrintLast Go.Proofs.YthcnfflhejogfaaDoorW.PrintMore
set_option maxHeartbeats 2000000 in
theorem dull_ask (x0 x1 first:ByteArray) (g:Nat) (w:World) (hm:MaxAt w) (hs:x0.size≤1000000) (hf:w.cell? ⟨g,0,none⟩=some (.string first)) :
    Calls Tryd.prog 61 #[.agg #[.string x0, .string x1], .pointer (some ⟨g,0,none⟩)] w fun e w'=>e = .returned (.bool (decide (colsOf x0≠first)))∧Aside0 (Below w.heap.size w w'):=by
 have hg:g < w.heap.size:=World.block_lt_of_cell? w _ hf;have HM:=Aside0.mk hm;have HF:=Aside0.mk hf;have HG:=Aside0.mk hg;clear hm hf hg;go_enter Tryd.func61,Tryd.ntmps61;(go_wp2_with fail);obtain⟨W1,hW1⟩ : ∃ W1,w.alloc (.cells #[.string x0, .string x1] 57)=W1:=⟨_,rfl⟩;have HM1:Aside0 (MaxAt W1):=⟨by rw[← hW1];exact HM.out.alloc _⟩;have HB1:Aside0 (Below w.heap.size w W1):=⟨by rw[← hW1];exact(Below.refl _ w).alloc (Nat.le_refl _) _⟩;(have hbl:W1.heap[w.heap.size]? = some (.cells #[.string x0, .string x1] 57 (0,0)):=by rw[← hW1];exact blk_new _ _);have yf:W1.cell? ⟨g,0,none⟩=some (.string first):=(HB1.out.cell HG.out).trans HF.out;have y0:W1.cell? ⟨w.heap.size,0,none⟩=some (.string x0):=cell_blk hbl rfl;have y1:W1.cell? ⟨w.heap.size,1,none⟩=some (.string x1):=cell_blk hbl rfl;rw[hW1];clear hW1 hbl;refine start_ (n:=5) (S:=fun w'=>w'.cell? ⟨w.heap.size,0,none⟩=some (.string x0)∧w'.cell? ⟨w.heap.size,1,none⟩=some (.string x1)∧w'.cell? ⟨g,0,none⟩=some (.string first)) (ds:=[]) #[false,false,false,false,false] (by kernel_rfl) rfl rfl ⟨y0,y1,yf⟩ (fun hHeld=>?_);refine tq_ (i:=0) (N:=some 4) #[true,false,false,false,false] hHeld ?_;refine tq_ (i:=2) (N:=some 6) #[true,false,true,false,false] hHeld ?_;refine one_ (i:=1) (N:=some 5) #[true,true,true,false,false] rfl rfl (by kernel_rfl) (by decide) (fun K hK=>?_);refine goes_ Tryd.func60 (by kernel_rfl) rfl #[.agg #[.string x0, .string x1]] (by rfl) rfl rfl (by simp only[List.map_toArray,List.map_cons,List.map_nil];rfl) ?_;(with_reducible refine(hunk_columns x0 x1 W1.drew HM1.out.drew hs).mono ?_);rintro e w2 ⟨rfl,HB2⟩;refine⟨_,rfl,?_⟩;have z0:w2.cell? ⟨w.heap.size,0,none⟩=some (.string x0):=(HB2.out.cell (World.block_lt_of_cell? W1 _ y0)).trans y0;have z1:w2.cell? ⟨w.heap.size,1,none⟩=some (.string x1):=(HB2.out.cell (World.block_lt_of_cell? W1 _ y1)).trans y1;have zf:w2.cell? ⟨g,0,none⟩=some (.string first):=(HB2.out.cell (World.block_lt_of_cell? W1 _ yf)).trans yf;have HW2:Aside0 (Below w.heap.size w w2):=⟨HB1.out.drew.trans (HB2.out.mono HB1.out.size)⟩;clear HB2;refine hK.out _ _ ⟨z0,z1,zf⟩ (fun hHeld=>?_);clear hK K;refine nq_ (N:=some 5) ?_;refine pq_ (i:=3) (N:=some 7) #[true,true,true,true,false] ?_;refine pq_ (i:=4) (N:=some 3) #[true,true,true,true,true] ?_;refine done_ (by kernel_rfl) ?_;clear y0 y1 yf z0 z1 zf;go_wp2;go_ret;exact⟨by simp[← strBeq],HW2⟩
def findI {α:Type} (p:α→Bool) (L:List α):Int:=match L.findIdx? p with|some i=>(i:Int)|none => -1
section
variable {α:Type} {p:α→Bool} {L:List α}
theorem findI_go {k:Nat} (hk:k < L.length) (h : ∀ l ∈ L.take k,p l=false) (hp:p L[k]=true):findI p L=(k:Int):=by
 have:L.findIdx? p=some k:=by
  rw[List.findIdx?_eq_some_iff_getElem]
  exact⟨hk,hp,fun j hj=>by
   have:L[j] ∈ L.take k:=by
    (rw[List.mem_take_iff_getElem];exact⟨j,by omega,rfl⟩)
   rw[h _ this];decide⟩
 rw[findI,this]
theorem findI_none (h : ∀ l ∈ L,p l=false):findI p L = -1:=by
 have:L.findIdx? p=none:=List.findIdx?_eq_none_iff.2 (fun x hx=>h x hx);rw[findI,this]
theorem findI_any:L.any p=decide (0≤findI p L):=by
 rw[findI]
 cases h:L.findIdx? p with
 | none =>
  have:=List.findIdx?_eq_none_iff.1 h;show _=false;rw[List.any_eq_false];(exact fun x hx=>by rw[this x hx];decide)
 | some i =>
  obtain⟨hi,h1,_⟩:=List.findIdx?_eq_some_iff_getElem.1 h;have:decide ((0:Int)≤(i:Int))=true:=decide_eq_true (by omega);show _=decide ((0:Int)≤(i:Int));rw[this,List.any_eq_true];exact⟨_,List.getElem_mem hi,h1⟩
end
abbrev Row57:=S57
def otherB (first:ByteArray) (x:Row57):Bool := !decide (colsOf x.f0=first)
set_option maxHeartbeats 2000000 in
theorem dull_index (g:Nat) (first:ByteArray) (A:Option Addr) (c:Nat) (L:List Row57) (w:World) (hm:MaxAt w) (hf:w.cell? ⟨g,0,none⟩=some (.string first)) (hC:Kd.C k57 w A L.length L) (hc:L.length≤c) (hL:L.length≤1000000) (hz : ∀ x ∈ L,x.f0.size≤1000000) :
    Calls Tryd.prog 87 #[.slice A L.length c, .func (.func 61) #[] #[.pointer (some ⟨g,0,none⟩)]] w fun e w'=>e = .returned (.int .i64 (findI (otherB first) L))∧Aside0 (Below w.heap.size w w'):=by
 have HC:=Aside0.mk hC;have HM:=Aside0.mk hm;have HF0:=Aside0.mk hf;have HZ:=Aside0.mk hz;have HG:Aside0 (g < w.heap.size):=⟨World.block_lt_of_cell? w _ hf⟩;clear hC hm hf hz;obtain⟨R,hR⟩ : ∃ R,findI (otherB first) L=R:=⟨_,rfl⟩;have HR:=Aside0.mk hR;rw[hR];clear hR;go_enter Tryd.func87,Tryd.ntmps87;(go_wp2_with fail)
 go_loopw [8,5] (fun i _ wr => ∃ (k:Nat),k≤L.length∧i = .int .i64 k∧Aside0 (∀ l ∈ L.take k,otherB first l=false)∧Aside0 (Below w.heap.size w wr)) (fun i _ _=>L.length - (intOf i).toNat)
 (case atStart=>exact⟨0,Nat.zero_le _,rfl,⟨by simp⟩,⟨Below.refl _ _⟩⟩)
 case round =>
  obtain⟨k,hk,rfl,HF,HB⟩:=hrel
  by_cases hlt:k < L.length
  ·
   obtain⟨ad,rfl,x0,x1⟩:=at_T57 HC.out (k:Int) (by omega) (by omega);have hx:rd_T57 L (k:Int)=L[k]:=getN hlt;have hxs:=HZ.out _ (List.getElem_mem hlt);obtain⟨x,hxe⟩ : ∃ x,L[k]=x:=⟨_,rfl⟩;(rw[hx,hxe] at x0 x1);(rw[hxe] at hxs);have HLK:=Aside0.mk hxe;have HXS:=Aside0.mk hxs;clear hx hxe hxs;replace x0:=(HB.out.cell (World.block_lt_of_cell? w _ x0)).trans x0;replace x1:=(HB.out.cell (World.block_lt_of_cell? w _ x1)).trans x1;(have kk:(k:Int).toNat=k:=by omega);(rw[kk] at x0 x1);clear kk;have HFW:Aside0 (wr.cell? ⟨g,0,none⟩=some (.string first)):=⟨(HB.out.cell HG.out).trans HF0.out⟩;obtain⟨q,hq⟩ : ∃ q,decide (colsOf x.f0≠first)=q:=⟨_,rfl⟩;(have hq2:otherB first x=q:=by rw[← hq,otherB];simp);have HQ:=Aside0.mk hq;have HQ2:=Aside0.mk hq2;clear hq hq2;(go_wp2_with fail);refine(dull_ask x.f0 x.f1 first g wr (HM.out.step HB.out) HXS.out HFW.out).mono ?_;rintro e w1 ⟨rfl,hb1⟩;have HB1:Aside0 (Below w.heap.size w w1):=⟨HB.out.trans (hb1.out.mono HB.out.size)⟩;rw[HQ.out];clear hb1
   cases q with
   | false =>
    go_wp2;go_roundw;(case measure=>simp[intOf];omega)
    case rel=>exact⟨k+1,by omega,by go_num,⟨fun x hx=>by
     (rw[← List.take_append_getElem hlt] at hx)
     rcases List.mem_append.1 hx with hx|hx
     (· exact HF.out x hx)
     ·
      rw[List.mem_singleton.1 hx,HLK.out];exact HQ2.out⟩,HB1⟩
   | true =>
    have HFK:Aside0 (R=(k:Int)):=⟨HR.out.symm.trans (findI_go hlt HF.out (by rw[HLK.out];exact HQ2.out))⟩;go_wp2;go_ret;exact⟨by rw[HFK.out];rfl,HB1⟩
  (· (have hk':k=L.length:=by omega);subst hk';(rw[List.take_length] at HF);have HFN:Aside0 (R = -1):=⟨HR.out.symm.trans (findI_none HF.out)⟩;go_wp2;go_ret;exact⟨by rw[HFN.out];rfl,HB⟩)
theorem dull_contains (g:Nat) (first:ByteArray) (A:Option Addr) (c:Nat) (L:List Row57) (w:World) (hm:MaxAt w) (hf:w.cell? ⟨g,0,none⟩=some (.string first)) (hC:Kd.C k57 w A L.length L) (hc:L.length≤c) (hL:L.length≤1000000) (hz : ∀ x ∈ L,x.f0.size≤1000000) :
    Calls Tryd.prog 63 #[.slice A L.length c, .func (.func 61) #[] #[.pointer (some ⟨g,0,none⟩)]] w fun e w'=>e = .returned (.bool (L.any (otherB first)))∧Aside0 (Below w.heap.size w w'):=by
 obtain⟨q,hq⟩ : ∃ q,findI (otherB first) L=q:=⟨_,rfl⟩;have hany:=findI_any (p:=otherB first) (L:=L);(rw[hq] at hany);have HANY:=Aside0.mk hany;have HQ:=Aside0.mk hq;have HC:=Aside0.mk hC;have HM:=Aside0.mk hm;have HF:=Aside0.mk hf;have HZ:=Aside0.mk hz;clear hany hq hC hm hf hz;go_enter Tryd.func63,Tryd.ntmps63;(go_wp2_with fail);refine(dull_index g first A c L _ HM.out HF.out HC.out hc hL HZ.out).mono ?_;rintro e w1 ⟨rfl,HB⟩;rw[HQ.out];go_wp2;go_ret;exact⟨by rw[HANY.out];rfl,HB⟩
def hasB (s:ByteArray) (c:UInt8):Bool:=decide (0≤Lib.indexByte s.data.toList c)
def dullB:List Row57→Bool
  | []=>false
  | r :: l=>(hasB (colsOf r.f0) 43 && hasB (colsOf r.f0) 32) && !((r :: l).any (otherB (colsOf r.f0)))
theorem has_calls (s:ByteArray) (c:UInt8) (q:Bool) (hq:hasB s c=q) (w:World):Calls Tryd.prog 62 #[.string s, .string ⟨#[c]⟩] w fun e w'=>e = .returned (.bool q)∧Drawn0 w w' :=
  strings_Contains.calls s ⟨#[c]⟩ q w (by rw[← hq];rfl)
set_option maxHeartbeats 2000000 in
theorem hunk_Dull (A:Option Addr) (c:Nat) (rows:List Row57) (w:World) (hm:MaxAt w) (hC:Kd.C k57 w A rows.length rows) (hc:rows.length≤c) (hL:rows.length≤1000000) (hz : ∀ x ∈ rows,x.f0.size≤1000000) :
    Calls Tryd.prog 33 #[.slice A rows.length c] w fun e w'=>e = .returned (.bool (dullB rows))∧Aside0 (Below w.heap.size w w'):=by
 have HC:=Aside0.mk hC;have HM:=Aside0.mk hm;have HZ:=Aside0.mk hz;clear hC hm hz;obtain⟨D,hD⟩ : ∃ D,dullB rows=D:=⟨_,rfl⟩;have HD:=Aside0.mk hD;rw[hD];clear hD
 by_cases h0:rows.length=0
 (· have HD0:Aside0 (D=false):=⟨by rw[← HD.out,List.eq_nil_of_length_eq_zero h0];rfl⟩;(have b0:(((rows.length:Nat):Int) == 0)=true:=by simp[h0]);(have b0':decide (((rows.length:Nat):Int)=0)=true:=by simp[h0]);go_enter Tryd.func33,Tryd.ntmps33;go_wp2;go_ret;exact⟨by rw[HD0.out];rfl,⟨Below.refl _ _⟩⟩)
 ·
  (have b0:(((rows.length:Nat):Int) == 0)=false:=by simp[h0]);(have b0':decide (((rows.length:Nat):Int)=0)=false:=by simp[h0]);(have hlt:0 < rows.length:=by omega);obtain⟨ad,rfl,x0,x1⟩:=at_T57 HC.out ((0:Nat):Int) (by omega) (by omega);have hx:rd_T57 rows ((0:Nat):Int)=rows[0]:=getN hlt;have hxs:=HZ.out _ (List.getElem_mem hlt);obtain⟨x,hxe⟩ : ∃ x,rows[0]=x:=⟨_,rfl⟩
  have hdl:dullB rows=((hasB (colsOf x.f0) 43 && hasB (colsOf x.f0) 32) && !(rows.any (otherB (colsOf x.f0)))):=by
   cases rows with
   | nil=>exact absurd rfl h0
   | cons r l=>simp only[List.getElem_cons_zero] at hxe;subst hxe;rfl
  (rw[hx,hxe] at x0 x1);(rw[hxe] at hxs);have HXS:=Aside0.mk hxs;have HDL:Aside0 (D=((hasB (colsOf x.f0) 43 && hasB (colsOf x.f0) 32) && !(rows.any (otherB (colsOf x.f0))))):=⟨HD.out.symm.trans hdl⟩;clear hx hxe hxs hdl HD;have kk:((0:Nat):Int).toNat=0:=rfl;(rw[kk] at x0 x1);clear kk;(have y0:w.cell? ad=some (.string x.f0):=by simpa [Addr.add] using x0);(have y1:w.cell? ⟨ad.block,ad.off+1,none⟩=some (.string x.f1):=by simpa [Addr.add] using x1);obtain⟨first,hfi⟩ : ∃ f,colsOf x.f0=f:=⟨_,rfl⟩;(rw[hfi] at HDL);have HFI:=Aside0.mk hfi;clear hfi;obtain⟨p1,hp1⟩ : ∃ p,hasB first 43=p:=⟨_,rfl⟩;obtain⟨p2,hp2⟩ : ∃ p,hasB first 32=p:=⟨_,rfl⟩;obtain⟨q,hq⟩ : ∃ q,rows.any (otherB first)=q:=⟨_,rfl⟩;have HP1:=Aside0.mk hp1;have HP2:=Aside0.mk hp2;have HQ:=Aside0.mk hq;(rw[hp1,hp2,hq] at HDL);clear hp1 hp2 hq;go_enter Tryd.func33,Tryd.ntmps33;(go_wp2_with fail);refine(hunk_columns x.f0 x.f1 w HM.out HXS.out).mono ?_;rintro e w1 ⟨rfl,HB1⟩;rw[HFI.out];(go_wp2_with fail);refine(has_calls first 43 p1 HP1.out _).mono ?_;rintro e w2' ⟨rfl,n2,hw2⟩;obtain⟨w2,e2⟩ : ∃ w2,w2=w2':=⟨_,rfl⟩;(rw[← e2] at hw2 ⊢);clear e2
  have hw3:Below w.heap.size w w2:=by
   rw[hw2];have h1:=HB1.out.alloc HB1.out.size (.cells #[.string first] 9);exact h1.trans ⟨rfl,rfl,rfl,Nat.le_refl _,fun _ _=>rfl⟩
  have hcg:w2.cell? ⟨w1.heap.size,0,none⟩=some (.string first):=by
   rw[hw2];simp
  have HW2:=Aside0.mk hw3;have HCG:=Aside0.mk hcg;clear hw2 hw3 hcg x0 x1 y0 y1
  cases p1 with
  | false =>
   have HD0:Aside0 (D=false):=⟨by rw[HDL.out];rfl⟩;go_wp2;go_ret;exact⟨by rw[HD0.out];rfl,HW2⟩
  | true =>
   have cg:=HCG.out;(go_wp2_with fail);clear cg;refine(has_calls first 32 p2 HP2.out _).mono ?_;rintro e w3' ⟨rfl,n3,hn3⟩;obtain⟨w3,e3⟩ : ∃ w3,w3=w3':=⟨_,rfl⟩;(rw[← e3] at hn3 ⊢);clear e3;have HW3:Aside0 (Below w.heap.size w w3):=⟨by rw[hn3];exact HW2.out.trans ⟨rfl,rfl,rfl,Nat.le_refl _,fun _ _=>rfl⟩⟩;have HCG3:Aside0 (w3.cell? ⟨w1.heap.size,0,none⟩=some (.string first)):=⟨by rw[hn3];simpa using HCG.out⟩;clear hn3
   cases p2 with
   | false =>
    have HD0:Aside0 (D=false):=⟨by rw[HDL.out];rfl⟩;go_wp2;go_ret;exact⟨by rw[HD0.out];rfl,HW3⟩
   | true =>
    (go_wp2_with fail);refine(dull_contains w1.heap.size first (some ad) c rows _ (HM.out.step HW3.out) HCG3.out (Kd.C_below HC.out HW3.out) hc hL HZ.out).mono ?_;rintro e w4 ⟨rfl,HB4⟩;rw[HQ.out];have HW4:Aside0 (Below w.heap.size w w4):=⟨HW3.out.trans (HB4.out.mono HW3.out.size)⟩;clear HB4;go_wp2;go_ret;exact⟨by rw[HDL.out];simp,HW4⟩
def oneB (q:Bool):Int:=if q=true then 1 else 0
def passL (s:ByteArray) (olds:List Int):List Int:=olds.mapIdx fun i n=>n+oneB (ofB (i:Int) s)
theorem passL_len (s:ByteArray) (olds:List Int):(passL s olds).length=olds.length:=by rw[passL,List.length_mapIdx]
theorem passL_get (s:ByteArray) (olds:List Int) {i:Nat} (h:i < olds.length):(passL s olds).getD i 0=olds.getD i 0+oneB (ofB (i:Int) s):=by
 (have h2:i < (passL s olds).length:=by rw[passL_len];exact h);rw[getD_get h2,getD_get h];simp[passL]
def CtAt (W:World) (g go:Nat) (olds:List Int) (n:Int):Prop :=
  W.heap[g]? = some (.cells #[.slice (some ⟨go,0,none⟩) olds.length olds.length, .int .i64 n] 90 (0,0))∧W.heap[go]? = some (.cells (olds.map (Value.int .i64)).toArray 3 (0,0))
def SameRest (W W':World):Prop:=W'.os=W.os∧W'.tape=W.tape∧W'.output=W.output
theorem SameRest.trans {W W1 W2:World} (h:SameRest W W1) (k:SameRest W1 W2):SameRest W W2:=⟨k.1.trans h.1,k.2.1.trans h.2.1,k.2.2.trans h.2.2⟩
structure Keeps2 (g go:Nat) (W W':World):Prop where
  size:W.heap.size≤W'.heap.size
  block : ∀ k,k < W.heap.size→k≠g→k≠go→W'.heap[k]? = W.heap[k]?
  rest:SameRest W W'
theorem Keeps2.refl (g go:Nat) (W:World):Keeps2 g go W W:=⟨Nat.le_refl _,fun _ _ _ _=>rfl,rfl,rfl,rfl⟩
theorem Keeps2.below {g go:Nat} {W W1 W2:World} (h:Keeps2 g go W W1) (hb:Below W1.heap.size W1 W2):Keeps2 g go W W2:=⟨Nat.le_trans h.1 hb.size,fun k hk h1 h2=>(hb.block k (by have:=h.1;omega)).trans (h.2 k hk h1 h2),h.3.trans ⟨hb.os,hb.tape,hb.output⟩⟩
theorem Keeps2.set {g go:Nat} {W W1:World} (h:Keeps2 g go W W1) {b:Nat} (hb:b=g∨b=go) (j:Nat) (v:Value):Keeps2 g go W (W1.setCell ⟨b,j,none⟩ v) :=
  ⟨by simpa [World.setCell] using h.1,fun k hk a c=>(heap_set_other (by rcases hb with rfl|rfl <;> assumption) _).trans (h.2 k hk a c),h.3.trans ⟨rfl,rfl,rfl⟩⟩
def PassI (w W:World) (g go:Nat) (s:ByteArray) (olds:List Int) (n:Int) (i:Nat):Prop :=
  Keeps2 g go w W∧CtAt W g go ((passL s olds).take i ++ olds.drop i) n
section
variable {w W W':World} {g go i:Nat} {s:ByteArray} {olds:List Int} {n:Int}
theorem pass_mix_len (hi:i≤olds.length):((passL s olds).take i ++ olds.drop i).length=olds.length:=by
 (rw[List.length_append,List.length_take,List.length_drop,passL_len];omega)
theorem CtAt.below (h:CtAt W g go olds n) (hb:Below W.heap.size W W'):CtAt W' g go olds n:=⟨farKeep h.1 hb,farKeep h.2 hb⟩
theorem PassI.below (h:PassI w W g go s olds n i) (hb:Below W.heap.size W W'):PassI w W' g go s olds n i:=⟨h.1.below hb,h.2.below hb⟩
theorem PassI.rowO (h:PassI w W g go s olds n i) (hi:i≤olds.length):W.cell? ⟨g,0,none⟩=some (.slice (some ⟨go,0,none⟩) olds.length olds.length):=by
 have:=cell_blk h.2.1 (j:=0) rfl;(rw[pass_mix_len hi] at this);exact this
theorem PassI.cellO (h:PassI w W g go s olds n i) (hi:i < olds.length):W.cell? ⟨go,i,none⟩=some (.int .i64 (olds.getD i 0)):=by
 refine cell_blk h.2.2 ?_;(have hl:((passL s olds).take i).length=i:=by rw[List.length_take,passL_len];omega)
 have e:((passL s olds).take i ++ olds.drop i)[i]? = some (olds.getD i 0):=by
  rw[List.getElem?_append_right (by omega),hl,Nat.sub_self,List.getElem?_drop,Nat.add_zero,List.getElem?_eq_getElem hi,getD_get hi]
 show (((passL s olds).take i ++ olds.drop i).map (Value.int .i64)).toArray[i]? = _;(rw[List.getElem?_toArray,List.getElem?_map,e];rfl)
theorem PassI.move (h:PassI w W g go s olds n i) (hi:i < olds.length) (hne:g≠go):PassI w (W.setCell ⟨go,i,none⟩ (.int .i64 (olds.getD i 0+oneB (ofB (i:Int) s)))) g go s olds n (i+1):=by
 obtain⟨h1,h2,h3⟩:=h;(have hl:((passL s olds).take i).length=i:=by rw[List.length_take,passL_len];omega)
 have e:((passL s olds).take i ++ olds.drop i).set i (olds.getD i 0+oneB (ofB (i:Int) s))=(passL s olds).take (i+1) ++ olds.drop (i+1):=by
  (have hip:i < (passL s olds).length:=by rw[passL_len];exact hi);(rw[List.set_append_right _ _ (by omega),hl,Nat.sub_self,dropCons hi,List.set_cons_zero,← passL_get s olds hi,getD_get hip,← List.take_append_getElem hip,List.append_assoc];rfl)
 refine⟨h1.set (.inr rfl) _ _,?_,?_⟩;(· (rw[pass_mix_len (by omega)] at h2 ⊢);exact setKeep h2 hne _);(· rw[heap_set_same h3,← e,List.map_set,← List.setIfInBounds_toArray])
end
theorem one_row {W:World} {b:Nat} {x:Row57} (h0:W.cell? ⟨b,0,none⟩=some (.string x.f0)) (h1:W.cell? ⟨b,1,none⟩=some (.string x.f1)):Kd.C k57 W (some ⟨b,0,none⟩) 1 [x] :=
  ⟨rfl,by omega,fun _=>⟨_,rfl,fun j p hp=>by
    cases j with
    | zero =>
      have e:x=p:=by simpa using hp
      subst e
      refine⟨[.string x.f0, .string x.f1],rfl,k57_mk W x,fun i u hu=>?_⟩
      match i with
      | 0 => have e : (Value.string x.f0) = u := by simpa using hu
             subst e;simpa [Addr.add] using h0
      | 1 => have e : (Value.string x.f1) = u := by simpa using hu
             subst e;simpa [Addr.add,k57,Kd.iso,Kd.pair,Kd.string] using h1
      | i+2=>simp at hu
    | succ j=>simp at hp⟩⟩
set_option maxHeartbeats 4000000 in
theorem counter_pass (g go:Nat) (olds:List Int) (n:Int) (x:Row57) (w:World) (h:CtAt w g go olds n) (hs:x.f0.size≤1000000) (ho:olds.length≤1000000) (hz : ∀ m ∈ olds,0≤m∧m≤1000000000) (hn:0≤n∧n≤1000000000) :
    Calls Tryd.prog 56 #[.pointer (some ⟨g,0,none⟩), .agg #[.string x.f0, .string x.f1]] w fun e w'=>e = .returned (.tuple #[])∧Aside0 (CtAt w' g go (passL x.f0 olds) (n+oneB (!lostB x.f0)))∧Aside0 (Keeps2 g go w w'):=by
 have HNE:Aside0 (g≠go):=⟨blkNe h.1 h.2 (by decide)⟩;have HG:Aside0 (g < w.heap.size):=⟨(Array.getElem?_eq_some_iff.1 h.1).1⟩;have HGO:Aside0 (go < w.heap.size):=⟨(Array.getElem?_eq_some_iff.1 h.2).1⟩;have H:=Aside0.mk h;have HZ:=Aside0.mk hz;clear h hz;go_enter Tryd.func56,Tryd.ntmps56
 go_upto_region 2 with fail
 obtain⟨W1,hW1⟩ : ∃ W1,(w.alloc (.cells #[.string x.f0, .string x.f1] 57)).alloc (.cells #[.string x.f0, .string x.f1] 57)=W1:=⟨_,rfl⟩;have HB1:Aside0 (Below w.heap.size w W1):=⟨by rw[← hW1];exact((Below.refl _ w).alloc (Nat.le_refl _) _).alloc (by simp) _⟩
 have hbo:W1.heap[w.heap.size+1]? = some (.cells #[.string x.f0, .string x.f1] 57 (0,0)):=by
  rw[← hW1];have:=blk_new (w.alloc (.cells #[.string x.f0, .string x.f1] 57)) (.cells #[.string x.f0, .string x.f1] 57);simpa using this
 have HBO:=Aside0.mk hbo;rw[hW1];clear hW1 hbo;have HI:Aside0 (PassI w W1 g go x.f0 olds n 0):=⟨⟨(Keeps2.refl g go w).below HB1.out,by simpa using H.out.below HB1.out⟩⟩;have y0:=HI.out.rowO (Nat.zero_le _);(go_wp2_with fail)
 go_loopw [13] (fun s13 wr => ∃ (i:Nat),s13 = .int .i64 i∧i≤olds.length∧Aside0 (PassI w wr g go x.f0 olds n i)∧Aside0 (wr.heap[w.heap.size+1]? = some (.cells #[.string x.f0, .string x.f1] 57 (0,0)))) (fun s13 _=>olds.length - (intOf s13).toNat)
 (case atStart=>exact⟨0,rfl,Nat.zero_le _,HI,HBO⟩)
 case round =>
  obtain⟨i,rfl,hi,HI,HBO⟩:=hrel
  by_cases hlt:i < olds.length
  ·
   have y0:=HI.out.rowO hi;have y1:=HI.out.cellO hlt;obtain⟨o,hoi⟩ : ∃ o,olds.getD i 0=o:=⟨_,rfl⟩;(have hoz:0≤o∧o≤1000000000:=by rw[← hoi,getD_get hlt];exact HZ.out _ (List.getElem_mem hlt));(rw[hoi] at y1);obtain⟨r,hr⟩ : ∃ r:List ByteArray,(([x]:List Row57).filter (fun y=>ofB (i:Int) y.f0)).map (·.f1)=r:=⟨_,rfl⟩
   have hrl:(r.length:Int)=oneB (ofB (i:Int) x.f0):=by
    rw[← hr];(cases hq:ofB (i:Int) x.f0 <;> simp[hq,oneB])
   have HOI:=Aside0.mk hoi;have HOZ:=Aside0.mk hoz;have HRR:=Aside0.mk hr;have HRL:=Aside0.mk hrl;have HONE:Aside0 (Kd.C k57 wr.drew (some ⟨w.heap.size+1,0,none⟩) [x].length [x]):=⟨Kd.C_drew (one_row (cell_blk HBO.out rfl) (cell_blk HBO.out rfl)) ⟩;have HCF:Aside0 (table_Column.f [x] (i:Int)=some r):=⟨by rw[table_Column.f,if_pos ⟨by simp,fun y hy=>by rw[List.mem_singleton.1 hy];omega⟩,HRR.out]⟩;clear hoi hoz hr hrl;go_wp2;refine start_ (n:=14) (S:=fun w'=>w'.cell? ⟨g,0,none⟩=some (.slice (some ⟨go,0,none⟩) olds.length olds.length)∧w'.cell? ⟨go,i,none⟩=some (.int .i64 o)) (ds:=[13]) (bm_ 14 0) (by kernel_rfl) rfl rfl ⟨y0,y1⟩ (fun hHeld=>?_);refine pq_ (i:=0) (N:=some 16) (bm_ 14 1) ?_;refine pq_ (i:=1) (N:=some 17) (bm_ 14 3) ?_;refine pq_ (i:=2) (N:=some 18) (bm_ 14 7) ?_;refine pq_ (i:=4) (N:=some 20) (bm_ 14 23) ?_;refine pq_ (i:=7) (N:=some 23) (bm_ 14 151) ?_;refine pq_ (i:=8) (N:=some 24) (bm_ 14 407) ?_;refine tq_ (i:=3) (N:=some 19) (bm_ 14 415) hHeld ?_;refine pq_ (i:=5) (N:=some 21) (bm_ 14 447) ?_;refine tq_ (i:=6) (N:=some 22) (bm_ 14 511) hHeld ?_;refine one_ (i:=9) (N:=some 25) (bm_ 14 1023) rfl rfl (by kernel_rfl) (by decide) (fun K hK=>?_);refine goes_ Tryd.func39 (by kernel_rfl) rfl #[.slice (some ⟨w.heap.size+1,0,none⟩) ([x]:List Row57).length 1, .int .i64 (i:Int)] (by rfl) rfl rfl (by simp only[List.map_toArray,List.map_cons,List.map_nil];rfl) ?_;(with_reducible refine(table_Column.calls (some ⟨w.heap.size+1,0,none⟩) 1 [x] (i:Int) r wr.drew HONE.out (Nat.le_refl _) HCF.out).mono ?_);rintro e w2 ⟨v2,rfl,hr2,hb2⟩;obtain⟨A2,c2,rfl⟩:=Kd.R_slice hr2;refine⟨_,rfl,?_⟩;have HI2:Aside0 (PassI w w2 g go x.f0 olds n i):=⟨HI.out.below ((Below.refl _ wr).drew.trans hb2)⟩;have HBO2:=Aside0.mk (farKeep HBO.out ((Below.refl _ wr).drew.trans hb2));have z0:=HI2.out.rowO hi;have z1:=HI2.out.cellO hlt;(rw[HOI.out] at z1);have fr2:w2.frozen? ⟨go,i,none⟩=false:=frozen_of_row _ _ _ _ _ HI2.out.2.2;clear hr2 hb2;refine hK.out _ _ ⟨z0,z1⟩ (fun hHeld=>?_);clear hK K;refine nq_ (N:=some 25) ?_;refine pure_ (i:=10) (N:=some 26) (v:=?_) (a':=?_) (bm_ 14 2047) rfl rfl (by kernel_rfl) (fun _ _ _ h=>h) (Or.inl ⟨by rfl,?_⟩) ?_ ?_;rotate_left;(· intro w';go_simp;(with_reducible rfl));rotate_left
   (· simp only[Act.put,List.setIfInBounds_toArray,List.set_cons_zero,List.set_cons_succ,i64_w,i32_w];rfl);refine pq_ (i:=11) (N:=some 27) (bm_ 14 4095) ?_;refine pq_ (i:=12) (N:=some 28) (bm_ 14 8191) ?_;refine last_ (i:=13) (N:=none) (bm_ 14 16383) rfl rfl (by kernel_rfl) (by decide) (fun K hK=>?_);refine skip_ (w1:=?_) (by rfl) rfl ?_ ?_;rotate_left;(· go_simp;rfl);refine hK.out _ _ ?_;clear hK K;refine done_ (by kernel_rfl) ?_;clear y0 y1 z0 z1 fr2
   have hw:wrap64 (o+(r.length:Int))=o+oneB (ofB (i:Int) x.f0):=by
    rw[HRL.out];have:=HOZ.out;unfold oneB;split;(· rw[gw (by omega) (by omega)]);(· rw[gw (by omega) (by omega)])
   rw[hw];have HI3:Aside0 (PassI w (w2.setCell ⟨go,i,none⟩ (.int .i64 (o+oneB (ofB (i:Int) x.f0)))) g go x.f0 olds n (i+1)):=⟨by rw[← HOI.out];exact HI2.out.move hlt HNE.out⟩;have HBO3:=Aside0.mk (setKeep (g:=go) (j:=i) HBO2.out (by have:=HGO.out;omega) (.int .i64 (o+oneB (ofB (i:Int) x.f0))));clear hw;go_wp2;go_roundw;(case measure=>simp[intOf];omega);(case rel=>exact⟨i+1,by go_num,by omega,HI3,HBO3⟩)
  ·
   (have hin:i=olds.length:=by omega);subst hin
   have HCT:Aside0 (CtAt wr g go (passL x.f0 olds) n):=⟨by
    have:=HI.out.2
    rwa [List.take_of_length_le (by rw[passL_len];omega),List.drop_of_length_le (Nat.le_refl _),List.append_nil] at this⟩
   have HKP:Aside0 (Keeps2 g go w wr):=⟨HI.out.1⟩;have y1:wr.cell? ⟨g,1,none⟩=some (.int .i64 n):=cell_blk HCT.out.1 rfl;obtain⟨r,hr⟩ : ∃ r:List ByteArray,(([x]:List Row57).filter (fun y => !lostB y.f0)).map (·.f1)=r:=⟨_,rfl⟩
   have hrl:(r.length:Int)=oneB (!lostB x.f0):=by
    rw[← hr];(cases hq:lostB x.f0 <;> simp[hq,oneB])
   have HRR:=Aside0.mk hr;have HRL:=Aside0.mk hrl;have HONE:Aside0 (Kd.C k57 wr.drew (some ⟨w.heap.size+1,0,none⟩) [x].length [x]):=⟨Kd.C_drew (one_row (cell_blk HBO.out rfl) (cell_blk HBO.out rfl))⟩;have HCF:Aside0 (table_Result.f [x]=some r):=⟨by rw[table_Result.f,if_pos ⟨by simp,fun y hy=>by rw[List.mem_singleton.1 hy];omega⟩,HRR.out]⟩;clear hr hrl y0;go_wp2;refine start_ (n:=11) (S:=fun w'=>w'.cell? ⟨g,1,none⟩=some (.int .i64 n)) (ds:=[10]) (bm_ 11 0) (by kernel_rfl) rfl rfl (y1) (fun hHeld=>?_);refine pq_ (i:=0) (N:=some 30) (bm_ 11 1) ?_;refine pq_ (i:=1) (N:=some 31) (bm_ 11 3) ?_;refine pq_ (i:=2) (N:=some 32) (bm_ 11 7) ?_;refine pq_ (i:=4) (N:=some 34) (bm_ 11 23) ?_;refine tq_ (i:=3) (N:=some 33) (bm_ 11 31) hHeld ?_;refine one_ (i:=5) (N:=some 35) (bm_ 11 63) rfl rfl (by kernel_rfl) (by decide) (fun K hK=>?_);refine goes_ Tryd.func38 (by kernel_rfl) rfl #[.slice (some ⟨w.heap.size+1,0,none⟩) ([x]:List Row57).length 1] (by rfl) rfl rfl (by simp only[List.map_toArray,List.map_cons,List.map_nil];rfl) ?_;(with_reducible refine(table_Result.calls (some ⟨w.heap.size+1,0,none⟩) 1 [x] r wr.drew HONE.out (Nat.le_refl _) HCF.out).mono ?_);rintro e w2 ⟨v2,rfl,hr2,hb2⟩;obtain⟨A2,c2,rfl⟩:=Kd.R_slice hr2;refine⟨_,rfl,?_⟩;have HCT2:Aside0 (CtAt w2 g go (passL x.f0 olds) n):=⟨HCT.out.below ((Below.refl _ wr).drew.trans hb2)⟩;have HKP2:Aside0 (Keeps2 g go w w2):=⟨HKP.out.below ((Below.refl _ wr).drew.trans hb2)⟩;have z1:w2.cell? ⟨g,1,none⟩=some (.int .i64 n):=cell_blk HCT2.out.1 rfl;have fr2:w2.frozen? ⟨g,1,none⟩=false:=frozen_of_row _ _ _ _ _ HCT2.out.1;clear hr2 hb2;refine hK.out _ _ (z1) (fun hHeld=>?_);clear hK K;refine nq_ (N:=some 35) ?_;refine pq_ (i:=6) (N:=some 36) (bm_ 11 127) ?_;refine pq_ (i:=7) (N:=some 37) (bm_ 11 255) ?_;refine pq_ (i:=8) (N:=some 38) (bm_ 11 511) ?_;refine pq_ (i:=9) (N:=some 39) (bm_ 11 1023) ?_;refine last_ (i:=10) (N:=none) (bm_ 11 2047) rfl rfl (by kernel_rfl) (by decide) (fun K hK=>?_);refine skip_ (w1:=?_) (by rfl) rfl ?_ ?_;rotate_left;(· go_simp;rfl);refine hK.out _ _ ?_;clear hK K;refine done_ (by kernel_rfl) ?_;clear y1 z1 fr2
   have hw:wrap64 (n+(r.length:Int))=n+oneB (!lostB x.f0):=by
    rw[HRL.out];unfold oneB;split;(· rw[gw (by omega) (by omega)]);(· rw[gw (by omega) (by omega)])
   rw[hw];have HCT3:Aside0 (CtAt (w2.setCell ⟨g,1,none⟩ (.int .i64 (n+oneB (!lostB x.f0)))) g go (passL x.f0 olds) (n+oneB (!lostB x.f0))):=⟨⟨by rw[heap_set_same HCT2.out.1];rfl,setKeep HCT2.out.2 (fun e=>HNE.out e.symm) _⟩⟩;have HKP3:Aside0 (Keeps2 g go w (w2.setCell ⟨g,1,none⟩ (.int .i64 (n+oneB (!lostB x.f0))))):=⟨HKP2.out.set (.inl rfl) _ _⟩;clear hw;go_wp2;go_end0;exact⟨rfl,HCT3,HKP3⟩
abbrev Span45:=S45
def passR (rows:List Row57) (olds:List Int):List Int:=rows.foldl (fun o x=>passL x.f0 o) olds
def passN (rows:List Row57) (n:Int):Int:=rows.foldl (fun m x=>m+oneB (!lostB x.f0)) n
def spansH (olds olds':List Int):List Span45:=List.zipWith (fun a b=>(⟨a,b⟩:Span45)) olds olds'
def HunkI (w W:World) (g go:Nat) (olds:List Int) (n:Int) (m:Int) (vr:Value) (v:Value) (l:List Span45):Prop :=
  Keeps2 g go w W∧CtAt W g go olds m∧W.heap[w.heap.size]? = some (.cells #[.slice none 0 0, .int .i64 0, .int .i64 0, .slice none 0 0] 48 (0,0)) ∧
    W.heap[w.heap.size+1]? = some (.cells #[v, .int .i64 n, .int .i64 0,vr] 48 (0,0))∧Kd.R k45 45 W w.heap.size (fun _=>True) v l
theorem HunkI.below {w W W':World} {g go:Nat} {olds:List Int} {n m:Int} {vr v:Value} {l:List Span45} (h:HunkI w W g go olds n m vr v l) (hb:Below W.heap.size W W'):HunkI w W' g go olds n m vr v l:=by
 obtain⟨h1,h2,h3,h4,h5⟩:=h;exact⟨h1.below hb,h2.below hb,farKeep h3 hb,farKeep h4 hb,Kd.R_below h5 hb⟩
theorem HunkI.lay {w W W2:World} {g go:Nat} {olds:List Int} {n m:Int} {vr v v2:Value} {l l2:List Span45} (h:HunkI w W g go olds n m vr v l) (hg2:W.grownBy W2 v.ownBlock) (hr2:Kd.R k45 45 W2 w.heap.size (fun _=>True) v2 l2) (hg:g < w.heap.size) (hgo:go < w.heap.size):HunkI w (W2.setCell ⟨w.heap.size+1,0,none⟩ v2) g go olds n m vr v2 l2:=by
 obtain⟨h1,h2,h3,h4,h5⟩:=h;have k4:=(hg2.block _ (Array.getElem?_eq_some_iff.1 h4).1 (Kd.R_ne h5 h4 (by decide))).trans h4;refine⟨⟨?_,fun k hk a b=>?_,h1.3.trans ⟨hg2.os,hg2.tape,hg2.output⟩⟩,⟨setKeep ((hg2.block _ (Array.getElem?_eq_some_iff.1 h2.1).1 (Kd.R_ne h5 h2.1 (by decide))).trans h2.1) (by omega) _,setKeep ((hg2.block _ (Array.getElem?_eq_some_iff.1 h2.2).1 (Kd.R_ne h5 h2.2 (by decide))).trans h2.2) (by omega) _⟩,setKeep ((hg2.block _ (Array.getElem?_eq_some_iff.1 h3).1 (Kd.R_ne h5 h3 (by decide))).trans h3) (by omega) _,by rw[heap_set_same k4];rfl,Kd.R_set hr2 k4 (by decide) _ _⟩;(· (have:=hg2.size;have:=h1.1;simp[World.setCell];omega));(· rw[heap_set_other (by omega)];refine(hg2.block k (Nat.lt_of_lt_of_le hk h1.1) (fun e=>?_)).trans (h1.2 k hk a b);have:=Kd.R_base h5 k e.symm;omega)
theorem CtAt.away {W:World} {g go:Nat} {olds:List Int} {n:Int} (h:CtAt W g go olds n) {p:Addr} {s:ByteArray} (hp:W.cell? p=some (.string s)):p.block≠g∧p.block≠go:=by
 have key : ∀ {b:Nat} {cs:Array Value} {t:TypeId},W.heap[b]? = some (.cells cs t (0,0))→p.block=b → ∃ j:Nat,cs[j]? = some (.string s):=by
  intro b cs t hb e;(rw[World.cell?,e,hb] at hp);(dsimp only at hp);(split at hp);(· cases hp);(· exact⟨_,hp⟩)
 constructor
 ·
  intro e;obtain⟨j,hj⟩:=key h.1 e
  match j with
  | 0=>simp at hj
  | 1=>simp at hj
  | j+2=>simp at hj
 ·
  intro e;obtain⟨j,hj⟩:=key h.2 e;(rw[List.getElem?_toArray,List.getElem?_map] at hj)
  cases hx:olds[j]? with
  | none=>rw[hx] at hj;cases hj
  | some m=>rw[hx] at hj;cases hj
theorem passR_snoc {rows:List Row57} {olds:List Int} {i:Nat} (h:i < rows.length):passR (rows.take (i+1)) olds=passL rows[i].f0 (passR (rows.take i) olds):=by
 (rw[passR,passR,← List.take_append_getElem h,List.foldl_append];rfl)
theorem passN_snoc {rows:List Row57} {n:Int} {i:Nat} (h:i < rows.length):passN (rows.take (i+1)) n=passN (rows.take i) n+oneB (!lostB rows[i].f0):=by
 (rw[passN,passN,← List.take_append_getElem h,List.foldl_append];rfl)
theorem passR_len : ∀ (rows:List Row57) (olds:List Int),(passR rows olds).length=olds.length
 | [],olds=>rfl
 | x :: rows,olds=>by
  show (passR rows (passL x.f0 olds)).length=_;rw[passR_len rows,passL_len]
theorem oneB_low (q:Bool):0≤oneB q∧oneB q≤1:=by cases q <;> decide
theorem passR_low : ∀ (rows:List Row57) (olds:List Int) (B:Int),(∀ m ∈ olds,0≤m∧m≤B) → ∀ m ∈ passR rows olds,0≤m∧m≤B+rows.length
 | [],olds,B,h,m,hm=>by have:=h m hm;simpa using this
 | x :: rows,olds,B,h,m,hm=>by
  have:=passR_low rows (passL x.f0 olds) (B+1) (fun m hm=>by
   obtain⟨i,hi,rfl⟩:=List.mem_iff_getElem.1 hm;(have hi2:i < olds.length:=by rw[passL_len] at hi;exact hi);have e:=passL_get x.f0 olds hi2;(rw[getD_get hi,getD_get hi2] at e);rw[e];have:=h _ (List.getElem_mem hi2);have:=oneB_low (ofB (i:Int) x.f0)
   omega) m hm
  rw[List.length_cons];omega
theorem passN_low : ∀ (rows:List Row57) (n B:Int),0≤n∧n≤B→0≤passN rows n∧passN rows n≤B+rows.length
 | [],n,B,h=>by show 0≤n∧n≤B+((0:Nat):Int);omega
 | x :: rows,n,B,h=>by
  have h1:=oneB_low (!lostB x.f0);have:=passN_low rows (n+oneB (!lostB x.f0)) (B+1) (by omega);rw[List.length_cons];show 0≤passN rows (n+oneB (!lostB x.f0))∧passN rows (n+oneB (!lostB x.f0))≤_;omega
theorem Keeps2.trans {g go:Nat} {W W1 W2:World} (h:Keeps2 g go W W1) (k:Keeps2 g go W1 W2):Keeps2 g go W W2:=⟨Nat.le_trans h.1 k.1,fun j hj a b=>(k.2 j (Nat.lt_of_lt_of_le hj h.1) a b).trans (h.2 j hj a b),h.3.trans k.3⟩
theorem HunkI.pass {w W W2:World} {g go:Nat} {olds olds2:List Int} {n m m2:Int} {vr v:Value} {l:List Span45} (h:HunkI w W g go olds n m vr v l) (hk:Keeps2 g go W W2) (hc:CtAt W2 g go olds2 m2) (hg:g < w.heap.size) (hgo:go < w.heap.size):HunkI w W2 g go olds2 n m2 vr v l:=by
 obtain⟨h1,h2,h3,h4,h5⟩:=h;(have keep : ∀ {k:Nat} {o:Obj},w.heap.size≤k→W.heap[k]? = some o→W2.heap[k]? = some o:=fun {k o} hb hh=>(hk.2 k (Array.getElem?_eq_some_iff.1 hh).1 (by omega) (by omega)).trans hh);refine⟨h1.trans hk,hc,keep (Nat.le_refl _) h3,keep (by omega) h4,?_⟩;have b:=Kd.R_bound h5;exact Kd.R_mono (Kd.R_step b (fun k hk' hlt=>hk.2 k hlt (by have:=hk'.2.1;omega) (by have:=hk'.2.1;omega))) (fun _ _=>trivial)
theorem span_put {W:World} {B gs n co:Nat} {l:List Span45} (h:Kd.R k45 45 W B (fun _=>True) (.slice (some ⟨gs,0,none⟩) n co) l) {i:Nat} (hi:i < n) (t:Int) :
    W.cell? ⟨gs,i * 2+1,none⟩=some (.int .i64 (l.getD i z45).f1)∧W.frozen? ⟨gs,i * 2+1,none⟩=false ∧
      Kd.R k45 45 (W.setCell ⟨gs,i * 2+1,none⟩ (.int .i64 t)) B (fun _=>True) (.slice (some ⟨gs,0,none⟩) n co) (l.set i ⟨(l.getD i z45).f0,t⟩)∧W.grownBy (W.setCell ⟨gs,i * 2+1,none⟩ (.int .i64 t)) (some gs):=by
  obtain⟨cs,hcl,hM,hcell,hfr⟩:=Kd.R_elem h z45 (i:Int) (by omega) (by omega)
  rw[Int.toNat_natCast] at hM
  have e:=k45_openM hM
  subst e
  have hs:=Kd.R_seg h (i:Int) (by omega) (by omega) (seg:=[.int .i64 t]) (j:=1) hcl hcell (by show 1+1≤2;omega) (x':=(⟨(l.getD i z45).f0,t⟩:Span45)) (okp:=fun k=>True∧k≠gs) (k45_mkM _ _ _ _) (fun k hk=>hk)
  rw[Int.toNat_natCast] at hs
  have c1:=hcell 1 _ rfl
  have f1:=hfr 1
  rw[Int.toNat_natCast] at c1 f1
  exact⟨c1,f1,hs.1,hs.2⟩
def HunkJ (w W:World) (g go:Nat) (olds:List Int) (n m:Int) (vr v:Value) (l:List Span45):Prop :=
  Keeps2 g go w W∧CtAt W g go olds m∧W.heap[w.heap.size]? = some (.cells #[.slice none 0 0, .int .i64 0, .int .i64 0, .slice none 0 0] 48 (0,0)) ∧
    W.heap[w.heap.size+1]? = some (.cells #[v, .int .i64 n, .int .i64 m,vr] 48 (0,0))∧Kd.R k45 45 W w.heap.size (fun _=>True) v l
theorem HunkI.end_ {w W:World} {g go:Nat} {olds:List Int} {n m:Int} {vr v:Value} {l:List Span45} (h:HunkI w W g go olds n m vr v l) (hg:g < w.heap.size) (hgo:go < w.heap.size):HunkJ w (W.setCell ⟨w.heap.size+1,2,none⟩ (.int .i64 m)) g go olds n m vr v l:=by
 obtain⟨h1,h2,h3,h4,h5⟩:=h;refine⟨⟨by simpa [World.setCell] using h1.1,fun k hk a b=>?_,h1.3.trans ⟨rfl,rfl,rfl⟩⟩,⟨setKeep h2.1 (by omega) _,setKeep h2.2 (by omega) _⟩,setKeep h3 (by omega) _,by rw[heap_set_same h4];rfl,Kd.R_set h5 h4 (by decide) _ _⟩;rw[heap_set_other (by omega)];exact h1.2 k hk a b
theorem HunkJ.put {w W W2:World} {g go gs:Nat} {olds:List Int} {n m:Int} {vr v:Value} {l l2:List Span45} (h:HunkJ w W g go olds n m vr v l) (hv:v.ownBlock=some gs) (hr:Kd.R k45 45 W2 w.heap.size (fun _=>True) v l2) (hg2:W.grownBy W2 (some gs)) (hg:g < w.heap.size) (hgo:go < w.heap.size):HunkJ w W2 g go olds n m vr v l2:=by
 obtain⟨h1,h2,h3,h4,h5⟩:=h;(rw[← hv] at hg2);refine⟨⟨?_,fun k hk a b=>?_,h1.3.trans ⟨hg2.os,hg2.tape,hg2.output⟩⟩,⟨(hg2.block _ (Array.getElem?_eq_some_iff.1 h2.1).1 (Kd.R_ne h5 h2.1 (by decide))).trans h2.1,(hg2.block _ (Array.getElem?_eq_some_iff.1 h2.2).1 (Kd.R_ne h5 h2.2 (by decide))).trans h2.2⟩,(hg2.block _ (Array.getElem?_eq_some_iff.1 h3).1 (Kd.R_ne h5 h3 (by decide))).trans h3,(hg2.block _ (Array.getElem?_eq_some_iff.1 h4).1 (Kd.R_ne h5 h4 (by decide))).trans h4,hr⟩;(· (have:=hg2.size;have:=h1.1;omega));(· refine(hg2.block k (Nat.lt_of_lt_of_le hk h1.1) (fun e=>?_)).trans (h1.2 k hk a b);have:=Kd.R_base h5 k e.symm;omega)
def mixS (olds olds':List Int) (i:Nat):List Span45:=(spansH olds olds').take i ++ (olds.map (fun a=>(⟨a,0⟩:Span45))).drop i
theorem mix_set {olds olds':List Int} (h:olds'.length=olds.length) {i:Nat} (hi:i < olds.length):(mixS olds olds' i).set i ⟨((mixS olds olds' i).getD i z45).f0,olds'.getD i 0⟩=mixS olds olds' (i+1):=by
 (have hs:(spansH olds olds').length=olds.length:=by rw[spansH,List.length_zipWith,h,Nat.min_self]);(have hl:((spansH olds olds').take i).length=i:=by rw[List.length_take];omega);(have hd:i < (olds.map (fun a=>(⟨a,0⟩:Span45))).length:=by rw[List.length_map];exact hi)
 have hg:(mixS olds olds' i).getD i z45=⟨olds.getD i 0,0⟩:=by
  (rw[mixS,List.getD_eq_getElem?_getD,List.getElem?_append_right (by omega),hl,Nat.sub_self,List.getElem?_drop,Nat.add_zero,List.getElem?_eq_getElem hd,List.getElem_map,getD_get hi];rfl)
 (have hsi:i < (spansH olds olds').length:=by omega)
 have e:(spansH olds olds')[i]=⟨olds.getD i 0,olds'.getD i 0⟩:=by
  simp only[spansH,List.getElem_zipWith];rw[getD_get hi,getD_get (by omega)]
 (rw[hg,mixS,mixS,List.set_append_right _ _ (by omega),hl,Nat.sub_self,dropCons hd,List.set_cons_zero,← List.take_append_getElem hsi,e,List.append_assoc];rfl)
def set4 (W:World) (g:Nat) (a b c d:Value):World:=(((W.setCell ⟨g,0,none⟩ a).setCell ⟨g,1,none⟩ b).setCell ⟨g,2,none⟩ c).setCell ⟨g,3,none⟩ d
theorem set4_same {W:World} {g:Nat} {t:TypeId} {a b c d a' b' c' d':Value} (h:W.heap[g]? = some (.cells #[a,b,c,d] t (0,0))):(set4 W g a' b' c' d').heap[g]? = some (.cells #[a',b',c',d'] t (0,0)) :=
  heap_set_same (heap_set_same (heap_set_same (heap_set_same h _) _) _) _
theorem set4_other {W:World} {g k:Nat} {a b c d:Value} (h:k≠g):(set4 W g a b c d).heap[k]? = W.heap[k]? := by
 rw[set4,heap_set_other h,heap_set_other h,heap_set_other h,heap_set_other h]
theorem HunkJ.fin {w W:World} {g go:Nat} {olds:List Int} {n m:Int} {vr v a b c d:Value} {l:List Span45} (h:HunkJ w W g go olds n m vr v l) (hg:g < w.heap.size) (hgo:go < w.heap.size):CtAt (set4 W w.heap.size a b c d) g go olds m∧Kd.R k45 45 (set4 W w.heap.size a b c d) w.heap.size (fun _=>True) v l∧Keeps2 g go w (set4 W w.heap.size a b c d):=by
 obtain⟨h1,h2,h3,h4,h5⟩:=h;refine⟨⟨(set4_other (by omega)).trans h2.1,(set4_other (by omega)).trans h2.2⟩,?_,⟨by have:=h1.1;simpa [set4,World.setCell] using this,fun k hk p q=>(set4_other (by omega)).trans (h1.2 k hk p q),h1.3.trans ⟨rfl,rfl,rfl⟩⟩⟩;have e:=Kd.R_bound h5;refine Kd.R_mono (Kd.R_step e (fun k hk' hlt=>set4_other (fun e=>?_))) (fun _ _=>trivial);obtain⟨_,_,_,q,hq,cells,hc⟩:=hk';(rw[e,h3] at hc);(injection hc with hc);(injection hc with _ e2 _);(rw[← e2] at hq)
 revert hq
 decide
set_option maxHeartbeats 4000000 in
theorem counter_hunk (g go:Nat) (olds:List Int) (n:Int) (A:Option Addr) (c:Nat) (rows:List Row57) (w:World) (h:CtAt w g go olds n) (hC:Kd.C k57 w A rows.length rows) (hc:rows.length≤c) (hl:rows.length≤1000000) (hs : ∀ x ∈ rows,x.f0.size≤1000000) (ho:olds.length≤1000000) (hz : ∀ m ∈ olds,0≤m∧m≤100000000) (hn:0≤n∧n≤100000000) :
    Calls Tryd.prog 55 #[.pointer (some ⟨g,0,none⟩), .slice A rows.length c] w fun e w' => ∃ v,e = .returned (.agg #[v, .int .i64 n, .int .i64 (passN rows n), .slice A rows.length c])∧Aside0 (CtAt w' g go (passR rows olds) (passN rows n))∧Aside0 (Kd.R k45 45 w' w.heap.size (fun _=>True) v (spansH olds (passR rows olds)))∧Aside0 (Keeps2 g go w w'):=by
 have H:=Aside0.mk h;have HC:=Aside0.mk hC;have HZ:=Aside0.mk hz;have HS:=Aside0.mk hs;have y0:w.cell? ⟨g,0,none⟩=some (.slice (some ⟨go,0,none⟩) olds.length olds.length):=cell_blk h.1 rfl;have y1:w.cell? ⟨g,1,none⟩=some (.int .i64 n):=cell_blk h.1 rfl;(have y1a : ∀ o,(w.alloc o).cell? ⟨g,1,none⟩=some (.int .i64 n):=fun o=>cell_alloc_of y1 o);(have y1b : ∀ o o2,((w.alloc o).alloc o2).cell? ⟨g,1,none⟩=some (.int .i64 n):=fun o o2=>cell_alloc_of (cell_alloc_of y1 o) o2);clear h hC hz hs;go_enter Tryd.func55,Tryd.ntmps55
 go_upto_region 2 with fail
 obtain⟨W1,hW1⟩ : ∃ W1,(w.alloc (.cells #[.slice none 0 0, .int .i64 0, .int .i64 0, .slice none 0 0] 48)).alloc (.cells #[.slice none 0 0, .int .i64 n, .int .i64 0, .slice A rows.length c] 48)=W1:=⟨_,rfl⟩;(have hb1:Below w.heap.size w W1:=by rw[← hW1];exact((Below.refl _ w).alloc (Nat.le_refl _) _).alloc (by simp) _)
 have hx0:W1.heap[w.heap.size]? = some (.cells #[.slice none 0 0, .int .i64 0, .int .i64 0, .slice none 0 0] 48 (0,0)):=by
  (rw[← hW1,heap_alloc_old _ _ (by simp)];exact blk_new _ _)
 have hx1:W1.heap[w.heap.size+1]? = some (.cells #[.slice none 0 0, .int .i64 n, .int .i64 0, .slice A rows.length c] 48 (0,0)):=by
  rw[← hW1];have:=blk_new (w.alloc (.cells #[.slice none 0 0, .int .i64 0, .int .i64 0, .slice none 0 0] 48)) (.cells #[.slice none 0 0, .int .i64 n, .int .i64 0, .slice A rows.length c] 48);simpa using this
 rw[hW1];have HI:Aside0 (HunkI w W1 g go olds n n (.slice A rows.length c) (.slice none 0 0) []):=⟨⟨(Keeps2.refl g go w).below hb1,H.out.below hb1,hx0,hx1,Kd.R_nil _ _ _ _ _⟩⟩;have HG:Aside0 (g < w.heap.size∧go < w.heap.size):=⟨⟨(Array.getElem?_eq_some_iff.1 H.out.1).1,(Array.getElem?_eq_some_iff.1 H.out.2).1⟩⟩;clear hW1 hb1 hx0 hx1 y0 y1 y1a y1b;have y0:W1.cell? ⟨g,0,none⟩=some (.slice (some ⟨go,0,none⟩) olds.length olds.length):=cell_blk HI.out.2.1.1 rfl;(go_wp2_with fail);clear y0
 go_loopw [24] (fun s wr => ∃ (i:Nat) (Ao:Option Addr) (co:Nat),s = .int .i64 i∧i≤olds.length∧Aside0 (HunkI w wr g go olds n n (.slice A rows.length c) (.slice Ao i co) ((olds.take i).map (fun a=>(⟨a,0⟩:Span45))))) (fun s _=>olds.length - (intOf s).toNat)
 (case atStart=>exact⟨0,none,0,rfl,Nat.zero_le _,HI⟩)
 case round =>
  obtain⟨i,Ao,co,rfl,hi,HI⟩:=hrel
  by_cases hlt:i < olds.length
  ·
   have z1:wr.cell? ⟨go,i,none⟩=some (.int .i64 (olds.getD i 0)):=by
    refine cell_blk HI.out.2.1.2 ?_;(rw[List.getElem?_toArray,List.getElem?_map,List.getElem?_eq_getElem hlt,getD_get hlt];rfl)
   have z2:wr.cell? ⟨w.heap.size+1,0,none⟩=some (.slice Ao i co):=cell_blk HI.out.2.2.2.1 rfl;obtain⟨o,hoi⟩ : ∃ o,olds.getD i 0=o:=⟨_,rfl⟩;(rw[hoi] at z1);have HOI:=Aside0.mk hoi;(have hll:((olds.take i).map (fun a=>(⟨a,0⟩:Span45))).length=i:=by rw[List.length_map,List.length_take];omega);have HLL:=Aside0.mk hll;clear hoi hll
   go_wp2_with (first
    | (at_builtin;refine Kd.R_append k45 (w0:=wr) w.heap.size rfl (.tmp 29) (.tmp 32) 46 45 (.agg #[.int .i64 0, .int .i64 0]) 16 rfl Tryd.underlying46 info45 rfl (by decide) (by decide) (.slice Ao i co) ((olds.take i).map (fun a=>(⟨a,0⟩:Span45))) ⟨o,0⟩ [.int .i64 o, .int .i64 0] (fun _=>True) (fun _=>False) rfl rfl (k45_mkM _ _ _ _) (fun _ h=>h.elim) (fun _ _=>trivial) HI.out.2.2.2.2 ?aB HI.out.1.1 (by rw[HLL.out];omega) ?_;(case aB=>exact Below.refl _ _);intro v2 w2 hr2 hb2 hg2 hat2;obtain⟨A2,c2,hv2⟩:=Kd.R_slice hr2;subst hv2;have g2:=(hg2.block _ (Array.getElem?_eq_some_iff.1 HI.out.2.2.2.1).1 (Kd.R_ne HI.out.2.2.2.2 HI.out.2.2.2.1 (by decide))).trans HI.out.2.2.2.1;have z22:w2.cell? ⟨w.heap.size+1,0,none⟩=some (.slice Ao i co):=cell_blk g2 rfl;have fr2:w2.frozen? ⟨w.heap.size+1,0,none⟩=false:=frozen_of_row _ _ _ _ _ g2;have HR2:=Aside0.mk hr2;have HG2:=Aside0.mk hg2;clear hr2 hb2 hg2 hat2 g2))
   have hr3:Kd.R k45 45 w2 w.heap.size (fun _=>True) (.slice A2 (i+1) c2) ((olds.take (i+1)).map (fun a=>(⟨a,0⟩:Span45))):=by
    have hr:=HR2.out;(rw[List.length_append,List.length_singleton,HLL.out] at hr)
    have e:(olds.take (i+1)).map (fun a=>(⟨a,0⟩:Span45))=(olds.take i).map (fun a=>(⟨a,0⟩:Span45)) ++ [⟨o,0⟩]:=by
     rw[← List.take_append_getElem hlt,List.map_append,List.map_singleton,← HOI.out,getD_get hlt]
    rw[e];exact hr
   have HI3:=Aside0.mk (HI.out.lay HG2.out hr3 HG.out.1 HG.out.2);go_roundw;(case measure=>simp[intOf];omega);(case rel=>exact⟨i+1,A2,c2,by go_num,by omega,HI3⟩)
  ·
   (have hin:i=olds.length:=by omega);subst hin;(rw[List.take_length] at HI);obtain⟨sp0,hsp⟩ : ∃ sp0,olds.map (fun a=>(⟨a,0⟩:Span45))=sp0:=⟨_,rfl⟩;have HSP:=Aside0.mk hsp;(rw[hsp] at HI);clear hsp;(go_wp2_with fail)
   go_loopw [38] (fun s wr => ∃ (i:Nat),s = .int .i64 i∧i≤rows.length∧Aside0 (HunkI w wr g go (passR (rows.take i) olds) n (passN (rows.take i) n) (.slice A rows.length c) (.slice Ao olds.length co) sp0)) (fun s _=>rows.length - (intOf s).toNat)
   (case atStart=>exact⟨0,rfl,Nat.zero_le _,HI⟩)
   case round =>
    obtain⟨i,rfl,hi,HI⟩:=hrel
    by_cases hlt:i < rows.length
    ·
     obtain⟨ad,rfl,x0,x1⟩:=at_T57 HC.out (i:Int) (by omega) (by omega);have hx:rd_T57 rows (i:Int)=rows[i]:=getN hlt;have hxs:=HS.out _ (List.getElem_mem hlt);obtain⟨x,hxe⟩ : ∃ x,rows[i]=x:=⟨_,rfl⟩;(rw[hx,hxe] at x0 x1);(rw[hxe] at hxs);have HXE:=Aside0.mk hxe;have HXS:=Aside0.mk hxs;clear hx hxe hxs;have a0:=H.out.away x0;have a1:=H.out.away x1;replace x0:=(World.cell?_of_block (HI.out.1.2 _ (World.block_lt_of_cell? w _ x0) a0.1 a0.2)).trans x0;replace x1:=(World.cell?_of_block (HI.out.1.2 _ (World.block_lt_of_cell? w _ x1) a1.1 a1.2)).trans x1;(have kk:(i:Int).toNat=i:=by omega);(rw[kk] at x0 x1);clear kk a0 a1;have HR1:Aside0 (HunkI w (wr.alloc (.cells #[.string x.f0, .string x.f1] 57)) g go (passR (rows.take i) olds) n (passN (rows.take i) n) (.slice (some ad) rows.length c) (.slice Ao olds.length co) sp0):=⟨HI.out.below (newBelow _ _)⟩;(have hrl:(rows.take i).length≤1000000:=by rw[List.length_take];omega);have HBO:Aside0 (∀ m ∈ passR (rows.take i) olds,0≤m∧m≤1000000000):=⟨fun m hm=>by have:=passR_low (rows.take i) olds 100000000 HZ.out m hm;omega⟩;have HBN:Aside0 (0≤passN (rows.take i) n∧passN (rows.take i) n≤1000000000):=⟨by have:=passN_low (rows.take i) n 100000000 hn;omega⟩;clear hrl;(go_wp2_with fail);refine(counter_pass g go (passR (rows.take i) olds) (passN (rows.take i) n) x _ HR1.out.2.1 HXS.out (by rw[passR_len];exact ho) HBO.out HBN.out).mono ?_;rintro e w2 ⟨rfl,HCT2,HKP2⟩
     have HI3:Aside0 (HunkI w w2 g go (passR (rows.take (i+1)) olds) n (passN (rows.take (i+1)) n) (.slice (some ad) rows.length c) (.slice Ao olds.length co) sp0):=⟨by
      rw[passR_snoc hlt,passN_snoc hlt,HXE.out]
      exact HR1.out.pass HKP2.out HCT2.out HG.out.1 HG.out.2⟩
     clear HCT2 HKP2;go_wp2;go_roundw;(case measure=>simp[intOf];omega);(case rel=>exact⟨i+1,by go_num,by omega,HI3⟩)
    ·
     (have hin:i=rows.length:=by omega);subst hin;(rw[List.take_length] at HI);obtain⟨olds',ho'⟩ : ∃ o,passR rows olds=o:=⟨_,rfl⟩;obtain⟨n',hn'⟩ : ∃ m,passN rows n=m:=⟨_,rfl⟩;(have hol:olds'.length=olds.length:=by rw[← ho',passR_len]);(rw[ho',hn'] at HI);have HOE:=Aside0.mk ho';have HNE:=Aside0.mk hn';have HOL:=Aside0.mk hol;clear ho' hn' hol;have HJ:=Aside0.mk (HI.out.end_ HG.out.1 HG.out.2);have y1:wr.cell? ⟨g,1,none⟩=some (.int .i64 n'):=cell_blk HI.out.2.1.1 rfl;have y2:wr.cell? ⟨w.heap.size+1,2,none⟩=some (.int .i64 0):=cell_blk HI.out.2.2.2.1 rfl;have fr2:wr.frozen? ⟨w.heap.size+1,2,none⟩=false:=frozen_of_row _ _ _ _ _ HI.out.2.2.2.1;have y0:(wr.setCell ⟨w.heap.size+1,2,none⟩ (.int .i64 n')).cell? ⟨g,0,none⟩=some (.slice (some ⟨go,0,none⟩) olds'.length olds'.length):=cell_blk HJ.out.2.1.1 rfl;(go_wp2_with fail);clear y0 y1 y2 fr2
     go_loopw [57] (fun s wr => ∃ (i:Nat),s = .int .i64 i∧i≤olds'.length∧Aside0 (HunkJ w wr g go olds' n n' (.slice A rows.length c) (.slice Ao olds.length co) (mixS olds olds' i))) (fun s _=>olds'.length - (intOf s).toNat)
     case atStart=>exact⟨0,rfl,Nat.zero_le _,⟨by
      (have e:mixS olds olds' 0=sp0:=by rw[← HSP.out];simp[mixS])
      rw[e];exact HJ.out⟩⟩
     case round =>
      obtain⟨i,rfl,hi,HJ⟩:=hrel
      by_cases hlt:i < olds'.length
      ·
       (have hlt2:i < olds.length:=by rw[← HOL.out];exact hlt)
       have z1:wr.cell? ⟨go,i,none⟩=some (.int .i64 (olds'.getD i 0)):=by
        refine cell_blk HJ.out.2.1.2 ?_;(rw[List.getElem?_toArray,List.getElem?_map,List.getElem?_eq_getElem hlt,getD_get hlt];rfl)
       have hml:(mixS olds olds' i).length=olds.length:=((Kd.R_reads' HJ.out.2.2.2.2).1).symm;obtain⟨gs,cap,hv,_,hgs,_⟩:=Kd.R_form HJ.out.2.2.2.2 (by omega);(injection hv with hA hB hC');subst hA;obtain⟨q1,q2,q3,q4⟩:=span_put HJ.out.2.2.2.2 hlt2 (olds'.getD i 0);have HQ3:=Aside0.mk q3;have HQ4:=Aside0.mk q4;have z2:wr.cell? ⟨w.heap.size+1,0,none⟩=some (.slice (some ⟨gs,0,none⟩) olds.length co):=cell_blk HJ.out.2.2.2.1 rfl;obtain⟨o,hoi⟩ : ∃ o,olds'.getD i 0=o:=⟨_,rfl⟩;obtain⟨f1,hf1⟩ : ∃ f,((mixS olds olds' i).getD i z45).f1=f:=⟨_,rfl⟩;(rw[hoi] at z1);(rw[hf1] at q1);have HOI:=Aside0.mk hoi;clear hoi hf1 q3 q4 hml hB hC';(go_wp2_with fail)
       have HJ3:Aside0 (HunkJ w (wr.setCell ⟨gs,i * 2+1,none⟩ (.int .i64 o)) g go olds' n n' (.slice A rows.length c) (.slice (some ⟨gs,0,none⟩) olds.length co) (mixS olds olds' (i+1))):=⟨by
        have a:=HQ3.out;have b:=HQ4.out;(rw[mix_set HOL.out hlt2,HOI.out] at a);(rw[HOI.out] at b)
        exact HJ.out.put rfl a b HG.out.1 HG.out.2⟩
       go_roundw;(case measure=>simp[intOf];omega);(case rel=>exact⟨i+1,by go_num,by omega,HJ3⟩)
      ·
       (have hin:i=olds'.length:=by omega);subst hin
       have hms:mixS olds olds' olds'.length=spansH olds olds':=by
        (have hs:(spansH olds olds').length=olds.length:=by rw[spansH,List.length_zipWith,HOL.out,Nat.min_self]);rw[mixS,List.take_of_length_le (by rw[hs,HOL.out];exact Nat.le_refl _),List.drop_of_length_le (by rw[List.length_map,HOL.out];exact Nat.le_refl _),List.append_nil]
       (rw[hms] at HJ);clear hms;have z0:wr.cell? ⟨w.heap.size+1,0,none⟩=some (.slice Ao olds.length co):=cell_blk HJ.out.2.2.2.1 rfl;have z1:wr.cell? ⟨w.heap.size+1,1,none⟩=some (.int .i64 n):=cell_blk HJ.out.2.2.2.1 rfl;have z2:wr.cell? ⟨w.heap.size+1,2,none⟩=some (.int .i64 n'):=cell_blk HJ.out.2.2.2.1 rfl;have z3:wr.cell? ⟨w.heap.size+1,3,none⟩=some (.slice A rows.length c):=cell_blk HJ.out.2.2.2.1 rfl;have r0:wr.cell? ⟨w.heap.size,0,none⟩=some (.slice none 0 0):=cell_blk HJ.out.2.2.1 rfl;have r1:wr.cell? ⟨w.heap.size,1,none⟩=some (.int .i64 0):=cell_blk HJ.out.2.2.1 rfl;have r2:wr.cell? ⟨w.heap.size,2,none⟩=some (.int .i64 0):=cell_blk HJ.out.2.2.1 rfl;have r3:wr.cell? ⟨w.heap.size,3,none⟩=some (.slice none 0 0):=cell_blk HJ.out.2.2.1 rfl;have fr0:wr.frozen? ⟨w.heap.size,0,none⟩=false:=frozen_of_row _ _ _ _ _ HJ.out.2.2.1;have fr1:wr.frozen? ⟨w.heap.size,1,none⟩=false:=frozen_of_row _ _ _ _ _ HJ.out.2.2.1;have fr2:wr.frozen? ⟨w.heap.size,2,none⟩=false:=frozen_of_row _ _ _ _ _ HJ.out.2.2.1;have fr3:wr.frozen? ⟨w.heap.size,3,none⟩=false:=frozen_of_row _ _ _ _ _ HJ.out.2.2.1;(go_wp2_with fail);refine bodyPost_ret (results_cell_row rfl _ _ w.heap.size 48 #[.slice Ao olds.length co, .int .i64 n, .int .i64 n', .slice A rows.length c] (0,0) _ rfl (set4_same HJ.out.2.2.1) Tryd.underlying48 rfl (by kernel_rfl)) rfl ?_;obtain⟨e1,e2,e3⟩:=HJ.out.fin (a := .slice Ao olds.length co) (b := .int .i64 n) (c := .int .i64 n') (d := .slice A rows.length c) HG.out.1 HG.out.2;exact⟨_,by rw[HNE.out],⟨by rw[HOE.out,HNE.out];exact e1⟩,⟨by rw[HOE.out];exact e2⟩,⟨e3⟩⟩
theorem hunk_groups (A:Option Addr) (n c:Nat) (w:World):Calls Tryd.prog 53 #[.slice A n c] w fun e w'=>e = .returned (.func (.func 83) #[] #[.pointer (some ⟨w.heap.size,0,none⟩)])∧w'=w.alloc (.cells #[.slice A n c] 36):=by
 (have hmf : ∀ (fn:Fn) (first cap:Array Value) (w:World),(Instr.makeFunc fn first cap).run Tryd.prog w = .ok (.func fn first cap) w:=fun _ _ _ _=>rfl);go_enter Tryd.func53,Tryd.ntmps53;go_wp2;go_ret;exact⟨rfl,rfl⟩
theorem hunk_groups_in (k:Nat) (A:Option Addr) (n c:Nat) (w:World):CallsIn Fence.wide k Tryd.prog 53 #[.slice A n c] w fun e w'=>e = .returned (.func (.func 83) #[] #[.pointer (some ⟨w.heap.size,0,none⟩)])∧w'=w.alloc (.cells #[.slice A n c] 36):=by
 refine callsIn_of_wp Tryd.func53 rfl trivial ?_ rfl;simp only[Tryd.ntmps53,List.size_toArray,List.length_cons,List.length_nil,Nat.reduceAdd,Nat.reduceSub,Array.replicate_succ,Array.replicate_zero,List.push_toArray,List.append_toArray,List.nil_append,List.cons_append];gi_wp2;go_ret;exact⟨by simp,rfl⟩
def markB (x:Row57):Bool:=((⟨(Lib.trimS x.f0.data.toList [32]).toArray⟩:ByteArray).toList != ([]:List UInt8))
theorem marked_f (x:Row57) (hs:x.f0.size≤1000000):hunk_marked.f x.f0 x.f1=some (markB x):=by
 (rw[hunk_marked.f,strings_Trim.f,if_pos ⟨by omega,by decide,by decide⟩,Option.bind_some];rfl)
theorem hunk_marked (x:Row57) (hs:x.f0.size≤1000000) (w:World):Calls Tryd.prog 84 #[.agg #[.string x.f0, .string x.f1]] w fun e w'=>e = .returned (.bool (markB x))∧Below w.heap.size w w' :=
  hunk_marked.calls x.f0 x.f1 (markB x) w (marked_f x hs)
def groupEnd (rows:List Row57) (i:Nat):Nat:=i+((rows.drop i).takeWhile markB).length
theorem groupEnd_step {rows:List Row57} {i:Nat} (h:i < rows.length) (hm:markB rows[i]=true):groupEnd rows i=groupEnd rows (i+1):=by
 (rw[groupEnd,groupEnd,dropCons h,List.takeWhile_cons,if_pos hm,List.length_cons];omega)
theorem groupEnd_stop {rows:List Row57} {i:Nat} (h:i < rows.length) (hm:markB rows[i]=false):groupEnd rows i=i:=by
 (rw[groupEnd,dropCons h,List.takeWhile_cons,if_neg (by rw[hm];decide)];rfl)
theorem groupEnd_end {rows:List Row57} {i:Nat} (h:rows.length≤i):groupEnd rows i=i:=by
 (rw[groupEnd,List.drop_of_length_le h];rfl)
theorem groupEnd_le (rows:List Row57) {i:Nat} (h:i≤rows.length):i≤groupEnd rows i∧groupEnd rows i≤rows.length:=by
 have:=(List.takeWhile_sublist (p:=markB) (l:=rows.drop i)).length_le;(rw[List.length_drop] at this);(rw[groupEnd];omega)
def groupsGo (rows:List Row57):Nat→Nat→List Span45
  | 0,_=>[]
  | r+1,i=>if h:i < rows.length then (if markB rows[i]=true then ⟨(i:Int),(groupEnd rows i:Int)⟩ :: groupsGo rows r (groupEnd rows i) else groupsGo rows r (i+1)) else []
theorem dropWhile_nil {α:Type} {p:α→Bool} : ∀ {l:List α},l.dropWhile p=[] ↔ ∀ b ∈ l,p b=true
 | []=>by simp
 | a :: l=>by
  rw[List.dropWhile_cons];split;(· (rename_i h;rw[dropWhile_nil];simp[h]));(· (rename_i h;simp[h]))
theorem trim_nil (l cs:List UInt8):Lib.trimS l cs=[] ↔ ∀ b ∈ l,cs.contains b=true:=by
 rw[Lib.trimS,Lib.trimLeftS,dropWhile_nil,Lib.trimRightS];constructor
 ·
  intro h b hb;have hb:b ∈ l.reverse:=List.mem_reverse.2 hb;(rw[← List.takeWhile_append_dropWhile (p:=fun x=>cs.contains x) (l:=l.reverse)] at hb)
  rcases List.mem_append.1 hb with h1|h1
  (· exact List.all_eq_true.1 (List.all_takeWhile (p:=fun x=>cs.contains x) (l:=l.reverse)) b h1);(· exact h b (List.mem_reverse.2 h1))
 (· intro h b hb;have hb:=List.mem_reverse.1 hb;exact h b (List.mem_reverse.1 ((List.dropWhile_sublist _).subset hb)))
theorem baToList (l:List UInt8):(⟨l.toArray⟩:ByteArray).toList=l:=by rw[Lib.toList_data]
theorem markB_eq (x:Row57):markB x=mrkB x:=by
 rw[markB,baToList,mrkB]
 cases h:x.f0.data.toList.any (· != 32) with
 | false =>
  (rw[List.any_eq_false] at h)
  have e:Lib.trimS x.f0.data.toList [32]=[]:=(trim_nil _ _).2 fun b hb=>by
   have:=h b hb;(simp at this);simp[this]
  (rw[e];rfl)
 | true =>
  (rw[List.any_eq_true] at h);obtain⟨b,hb,hne⟩:=h;rw[bne_iff_ne];intro e;have:=(trim_nil _ _).1 e b hb;(simp at this);(simp[this] at hne)
theorem marked_at {rows:List Row57} (hz:Low rows) {i:Nat} (h:i < rows.length):hunk_marked.f (rd_T57 rows (i:Int)).f0 (rd_T57 rows (i:Int)).f1=some (HkP.mk mrkB rows i):=by
 rw[rdH h,marked_f _ (hz _ (List.getElem_mem h)),markB_eq,HkP.mk_at _ h]
theorem getD_set {l:List Bool} {i j:Nat} (hi:i < l.length):(l.set i true).getD j false=true↔(j=i∨l.getD j false=true):=by
 by_cases e:i=j
 (· subst e;simp[hi]);(· simp[List.getD_eq_getElem?_getD,List.getElem?_set,e];intro h;exact absurd h.symm e)
abbrev NoM (rows:List Row57) (a b:Nat):Prop := ∀ q,a≤q→q < b → ¬ HkP.MarkAt mrkB rows q
theorem noM_one {rows:List Row57} {i j:Nat} (h : ¬ HkP.MarkAt mrkB rows i) (hj:j=i+1):NoM rows i j:=fun q a b=>by
  obtain rfl:q=i:=by omega
  exact h
theorem show_up {rows:List Row57} (hz:Low rows) (hl:rows.length≤1000000) (x f t:Nat) (hx:x≤1000) (ht:t≤rows.length) : ∀ (n i:Nat) (s:List Bool),i+n=rows.length→s.length=rows.length →
    ∃ r,Gives (fun k=>hunk_show.l2 k s rows (x:Int) (i:Int) (f:Int) (t:Int)) r∧r.length=s.length ∧ ∀ j,r.getD j false=true↔(s.getD j false=true∨(i≤j∧j < rows.length∧j < t+x∧NoM rows i (j+1))):=by
 (have hw:wrap64 ((t:Int)+(x:Int))=((t+x:Nat):Int):=by rw[gw (by omega) (by omega)];omega);intro n
 induction n with
 | zero =>
  intro i s hi hs;refine⟨s,Gives.of fun k=>?_,rfl,fun j=>⟨fun h => .inl h,fun h=>h.elim id (fun h=>by omega)⟩⟩;show hunk_show.l2 (k+1) s rows (x:Int) (i:Int) (f:Int) (t:Int)=_;rw[hunk_show.l2,if_neg (by omega)]
 | succ n ih =>
  intro i s hi hs;(have hil:i < rows.length:=by omega)
  by_cases hb:i < t+x
  ·
   cases hm:HkP.mk mrkB rows i with
   | true =>
    refine⟨s,Gives.of fun k=>?_,rfl,fun j=>⟨fun h => .inl h,fun h=>h.elim id (fun h=>(h.2.2.2 i (Nat.le_refl _) (by omega) ((HkP.mk_iff _).1 hm)).elim)⟩⟩;show hunk_show.l2 (k+1) s rows (x:Int) (i:Int) (f:Int) (t:Int)=_;rw[hunk_show.l2,if_pos (by omega),hw,if_pos (by omega),if_pos (by omega),marked_at hz hil,hm,Option.bind_some,if_pos rfl]
   | false =>
    have hnm:=(HkP.mk_no _).1 hm;obtain⟨r,hg,hrl,hr⟩:=ih (i+1) (s.set i true) (by omega) (by rw[List.length_set];exact hs);refine⟨r,hg.step fun k=>?_,by rw[hrl,List.length_set],fun j=>?_⟩;(· show hunk_show.l2 (k+1) s rows (x:Int) (i:Int) (f:Int) (t:Int)=hunk_show.l2 k _ rows _ _ _ _;rw[hunk_show.l2,if_pos (by omega),hw,if_pos (by omega),if_pos (by omega),marked_at hz hil,hm,Option.bind_some,if_neg (by decide),if_pos (by omega),gw1 (by omega),Int.toNat_natCast])
    ·
     rw[hr,getD_set (by omega)];constructor
     ·
      rintro((h|h)|⟨h1,h2,h3,h4⟩);(· exact .inr ⟨by omega,by omega,by omega,by obtain rfl:=h;exact noM_one hnm rfl⟩);(· exact .inl h)
      ·
       exact .inr ⟨by omega,h2,h3,fun q a b=>by
        by_cases e:q=i
        (· (subst e;exact hnm))
        ·
         exact h4 q (by omega) b⟩
     ·
      rintro(h|⟨h1,h2,h3,h4⟩);(· exact .inl (.inr h))
      ·
       by_cases e:j=i
       (· exact .inl (.inl e));(· exact .inr ⟨by omega,h2,h3,fun q a b=>h4 q (by omega) b⟩)
  (· refine⟨s,Gives.of fun k=>?_,rfl,fun j=>⟨fun h => .inl h,fun h=>h.elim id (fun h=>by omega)⟩⟩;show hunk_show.l2 (k+1) s rows (x:Int) (i:Int) (f:Int) (t:Int)=_;rw[hunk_show.l2,if_pos (by omega),hw,if_neg (by omega)])
theorem show_down {rows:List Row57} (hz:Low rows) (hl:rows.length≤1000000) (x f t:Nat) (hx:x≤1000) (ht:t≤rows.length) (hf:f≤rows.length) : ∀ (i:Nat) (s:List Bool),i≤f→s.length=rows.length →
    ∃ r,Gives (fun k=>hunk_show.l1 k s rows (x:Int) ((i:Int) - 1) (f:Int) (t:Int)) r∧r.length=s.length ∧ ∀ j,r.getD j false=true↔(s.getD j false=true∨(j < i∧f≤j+x∧NoM rows j i)∨(t≤j∧j < rows.length∧j < t+x∧NoM rows t (j+1))):=by
 have hw:wrap64 ((f:Int) - (x:Int))=(f:Int) - (x:Int):=gw (by omega) (by omega);intro i
 induction i with
 | zero =>
  intro s hi hs;obtain⟨r,hg,hrl,hr⟩:=show_up hz hl x f t hx ht (rows.length - t) t s (by omega) hs;refine⟨r,(hg.step (f:=fun k=>hunk_show.j2 k s rows (x:Int) (f:Int) (t:Int)) fun k=>(by rw[hunk_show.j2])).step fun k=>?_,hrl,fun j=>?_⟩;(· show hunk_show.l1 (k+1) s rows (x:Int) _ (f:Int) (t:Int)=_;rw[hunk_show.l1,if_neg (by omega)])
  ·
   rw[hr];constructor
   ·
    rintro(h|h);(· exact .inl h);(· exact .inr (.inr h))
   ·
    rintro(h|h|h);(· exact .inl h);(· omega);(· exact .inr h)
 | succ i ih =>
  intro s hi hs;(have hil:i < rows.length:=by omega);(have e1:((i+1:Nat):Int) - 1=(i:Int):=by omega)
  have stop:(∀ k s',hunk_show.l1 (k+1) s rows (x:Int) (i:Int) (f:Int) (t:Int)=hunk_show.j2 k s rows (x:Int) (f:Int) (t:Int))→(∀ j,¬ (j < i+1∧f≤j+x∧NoM rows j (i+1))) → ∃ r,Gives (fun k=>hunk_show.l1 k s rows (x:Int) (((i+1:Nat):Int) - 1) (f:Int) (t:Int)) r∧r.length=s.length ∧ ∀ j,r.getD j false=true↔(s.getD j false=true∨(j < i+1∧f≤j+x∧NoM rows j (i+1))∨(t≤j∧j < rows.length∧j < t+x∧NoM rows t (j+1))):=fun h1 h2=>by
   obtain⟨r,hg,hrl,hr⟩:=show_up hz hl x f t hx ht (rows.length - t) t s (by omega) hs;rw[e1];refine⟨r,(hg.step (f:=fun k=>hunk_show.j2 k s rows (x:Int) (f:Int) (t:Int)) fun k=>(by rw[hunk_show.j2])).step fun k=>h1 k s,hrl,fun j=>?_⟩;rw[hr];constructor
   ·
    rintro(h|h);(· exact .inl h);(· exact .inr (.inr h))
   ·
    rintro(h|h|h);(· exact .inl h);(· exact(h2 j h).elim);(· exact .inr h)
  by_cases hb:f≤i+x
  ·
   cases hm:HkP.mk mrkB rows i with
   | true =>
    refine stop (fun k _=>?_) (fun j h=>h.2.2 i (by omega) (by omega) ((HkP.mk_iff _).1 hm));rw[hunk_show.l1,if_pos (by omega),hw,if_pos (by omega),if_pos (by omega),if_pos (by omega),marked_at hz hil,hm,Option.bind_some,if_pos rfl]
   | false =>
    have hnm:=(HkP.mk_no _).1 hm;obtain⟨r,hg,hrl,hr⟩:=ih (s.set i true) (by omega) (by rw[List.length_set];exact hs);refine⟨r,hg.step fun k=>?_,by rw[hrl,List.length_set],fun j=>?_⟩;(· rw[e1];show hunk_show.l1 (k+1) s rows (x:Int) (i:Int) (f:Int) (t:Int)=hunk_show.l1 k _ rows _ _ _ _;rw[hunk_show.l1,if_pos (by omega),hw,if_pos (by omega),if_pos (by omega),if_pos (by omega),marked_at hz hil,hm,Option.bind_some,if_neg (by decide),if_pos (by omega),gw (by omega) (by omega),Int.toNat_natCast])
    ·
     rw[hr,getD_set (by omega)];constructor
     ·
      rintro((h|h)|⟨h1,h2,h3⟩|h);(· subst h;exact .inr (.inl ⟨by omega,by omega,noM_one hnm rfl⟩));(· exact .inl h)
      ·
       exact .inr (.inl ⟨by omega,h2,fun q a b=>by
        by_cases e:q=i
        (· (subst e;exact hnm))
        ·
         exact h3 q a (by omega)⟩)
      (· exact .inr (.inr h))
     ·
      rintro(h|⟨h1,h2,h3⟩|h);(· exact .inl (.inr h))
      ·
       by_cases e:j=i
       (· exact .inl (.inl e));(· exact .inr (.inl ⟨by omega,h2,fun q a b=>h3 q a (by omega)⟩))
      (· exact .inr (.inr h))
  (· refine stop (fun k _=>?_) (fun j h=>by omega);rw[hunk_show.l1,if_pos (by omega),hw,if_neg (by omega)])
theorem show_in {rows:List Row57} (hz:Low rows) (hl:rows.length≤1000000) (x f t:Nat) (hx:x≤1000) (ht:t≤rows.length) (hf:f≤t) : ∀ (n i:Nat) (s:List Bool),i+n=t→f≤i→s.length=rows.length →
    ∃ r,Gives (fun k=>hunk_show.l0 k s rows (x:Int) (i:Int) (f:Int) (t:Int)) r∧r.length=s.length ∧ ∀ j,r.getD j false=true↔(s.getD j false=true∨(i≤j∧j < t)∨(j < f∧f≤j+x∧NoM rows j f)∨(t≤j∧j < rows.length∧j < t+x∧NoM rows t (j+1))):=by
 intro n
 induction n with
 | zero =>
  intro i s hi hfi hs;obtain⟨r,hg,hrl,hr⟩:=show_down hz hl x f t hx ht (by omega) f s (Nat.le_refl _) hs;refine⟨r,hg.step fun k=>?_,hrl,fun j=>?_⟩;(· show hunk_show.l0 (k+1) s rows (x:Int) (i:Int) (f:Int) (t:Int)=hunk_show.l1 k s rows _ _ _ _;rw[hunk_show.l0,if_neg (by omega),gw (by omega) (by omega)])
  ·
   rw[hr];constructor
   ·
    rintro(h|h);(· exact .inl h);(· exact .inr (.inr h))
   ·
    rintro(h|h|h);(· exact .inl h);(· omega);(· exact .inr h)
 | succ n ih =>
  intro i s hi hfi hs;obtain⟨r,hg,hrl,hr⟩:=ih (i+1) (s.set i true) (by omega) (by omega) (by rw[List.length_set];exact hs);refine⟨r,hg.step fun k=>?_,by rw[hrl,List.length_set],fun j=>?_⟩;(· show hunk_show.l0 (k+1) s rows (x:Int) (i:Int) (f:Int) (t:Int)=hunk_show.l0 k _ rows _ _ _ _;rw[hunk_show.l0,if_pos (by omega),if_pos (by omega),if_pos (by omega),gw1 (by omega),Int.toNat_natCast])
  ·
   rw[hr,getD_set (by omega)];constructor
   ·
    rintro((h|h)|h|h);(· exact .inr (.inl ⟨by omega,by omega⟩));(· exact .inl h);(· exact .inr (.inl ⟨by omega,h.2⟩));(· exact .inr (.inr h))
   ·
    rintro(h|h|h);(· exact .inl (.inr h))
    ·
     by_cases e:j=i
     (· exact .inl (.inl e));(· exact .inr (.inl ⟨by omega,h.2⟩))
    (· exact .inr (.inr h))
noncomputable def showF (rows:List Row57) (x f t:Nat) (s:List Bool):List Bool:=(List.range s.length).map (fun j=>s.getD j false || @decide (HkP.Inside mrkB rows x f t j) (Classical.propDecidable _))
theorem showF_len (rows:List Row57) (x f t:Nat) (s:List Bool):(showF rows x f t s).length=s.length:=by simp[showF]
theorem showF_at {rows:List Row57} {x f t:Nat} {s:List Bool} {j:Nat} (hj:j < s.length):(showF rows x f t s).getD j false=true↔(s.getD j false=true∨HkP.Inside mrkB rows x f t j):=by
 rw[showF,List.getD_eq_getElem?_getD,List.getElem?_map,List.getElem?_range hj,Option.map_some,Option.getD_some,Bool.or_eq_true,@decide_eq_true_iff _ (Classical.propDecidable _)]
theorem show_gives {rows:List Row57} (hz:Low rows) (hl:rows.length≤1000000) (x f t:Nat) (hx:x≤1000) (ht:t≤rows.length) (hf:f≤t) (s:List Bool) (hs:s.length=rows.length):Gives (fun k=>hunk_show.f k s rows (f:Int) (t:Int) (x:Int)) (showF rows x f t s):=by
 obtain⟨r,hg,hrl,hr⟩:=show_in hz hl x f t hx ht hf (t - f) f s (by omega) (Nat.le_refl _) hs
 have e:r=showF rows x f t s:=by
  apply List.ext_getElem (by rw[showF_len];exact hrl);intro j h1 h2;have a:=hr j;have b:=showF_at (rows:=rows) (x:=x) (f:=f) (t:=t) (s:=s) (j:=j) (by omega);(rw[List.getD_eq_getElem?_getD,List.getElem?_eq_getElem h1,Option.getD_some] at a);(rw[List.getD_eq_getElem?_getD,List.getElem?_eq_getElem h2,Option.getD_some] at b);rw[Bool.eq_iff_iff,a,b,HkP.Inside];constructor
  ·
   rintro(h|h|h|⟨h1,h2,h3,h4⟩);(· exact .inl h);(· exact .inr (.inl h));(· exact .inr (.inr (.inl h)));(· exact .inr (.inr (.inr ⟨h1,h2,h3,fun q a b=>h4 q a (by omega)⟩)))
  ·
   rintro(h|h|h|⟨h1,h2,h3,h4⟩);(· exact .inl h);(· exact .inr (.inl h));(· exact .inr (.inr (.inl h)));(· exact .inr (.inr (.inr ⟨h1,h2,h3,fun q a b=>h4 q a (by omega)⟩)))
 subst e;(exact hg.same fun k=>rfl)
def okC (c:UInt8):Bool:=c == 32 || (c == 43 || c == 45)
def hasC (s:ByteArray) (c:UInt8):Bool:=s.data.toList.any (· == c)
def mayRow (n:Nat) (x:RowH):Bool:=x.f0.data.toList.all okC && (decide (x.f0.size=n) && (!(hasC x.f0 43 && hasC x.f0 45) && mayL [x.f1]))
def mayB (rows:List RowH):Bool:=rows.all (fun x=>decide (1≤(rd_T57 rows 0).f0.size∧(rd_T57 rows 0).f0.size≤16) && mayRow (rd_T57 rows 0).f0.size x)
def LowT (rows:List RowH):Prop := ∀ x ∈ rows,x.f1.size≤1000000
theorem hasB_eq (s:ByteArray) (c:UInt8):hasB s c=hasC s c:=by
 rw[hasB,hasC,Bool.eq_iff_iff,decide_eq_true_eq,List.any_eq_true];constructor;(· intro h;obtain⟨o,ho⟩ : ∃ o:Nat,Lib.indexByte s.data.toList c=o:=⟨(Lib.indexByte s.data.toList c).toNat,by omega⟩;exact⟨c,List.mem_of_getElem? (Lib.indexByte_some ho).1,beq_self_eq_true c⟩)
 ·
  rintro⟨b,hb,he⟩;have he:=eq_of_beq he;subst he;have h1:=Lib.indexByte_ge s.data.toList b
  by_cases h2:Lib.indexByte s.data.toList b = -1
  (· obtain⟨k,hk,e⟩:=List.mem_iff_getElem.1 hb;exact(Lib.indexByte_none h2 k (by rw[List.getElem?_eq_getElem hk,e])).elim);(· omega)
theorem trim_chars (s:ByteArray):(⟨(Lib.trimS s.data.toList [32,43,45]).toArray⟩:ByteArray).toList=[]↔s.data.toList.all okC=true:=by
 rw[baToList,trim_nil,List.all_eq_true];constructor;(· intro h b hb;have:=h b hb;(simp at this);(simp[okC];exact this));(· intro h b hb;have:=h b hb;(simp[okC] at this);(simp;exact this))
theorem may_Hunk {rows:List RowH} (hz:Low rows) (ht:LowT rows) (hl:rows.length≤1000000):Gives (fun k=>hunk_May.f k rows) (mayB rows):=by
 obtain⟨n,hn⟩ : ∃ n,(rd_T57 rows 0).f0.size=n:=⟨_,rfl⟩
 have key : ∀ (r i:Nat),i+r=rows.length→Gives (fun k=>hunk_May.l0 k rows rows (rows.length:Int) (i:Int)) ((rows.drop i).all (fun x=>decide (1≤n∧n≤16) && mayRow n x)):=by
  intro r
  induction r with
  | zero =>
   intro i hi;rw[List.drop_of_length_le (by omega)];(refine Gives.of fun k=>?_);show hunk_May.l0 (k+1) rows rows (rows.length:Int) (i:Int)=_;(rw[hunk_May.l0,if_neg (by omega)];rfl)
  | succ r ih =>
   intro i hi;(have hil:i < rows.length:=by omega);have hzi:=hz _ (List.getElem_mem hil);have hmay:=may_gives [rows[i].f1] (by simp) (by have:=ht _ (List.getElem_mem hil);simp;omega);have hnx:=ih (i+1) (by omega);rw[dropCons hil,List.all_cons,mayRow];obtain⟨x,hx⟩ : ∃ x,rows[i]=x:=⟨_,rfl⟩;(have hrd:rd_T57 rows (i:Int)=x:=by rw[rdH hil,hx]);(rw[hx] at hzi hmay);rw[hx];(have ec1:strings_Contains.f x.f0 (⟨#[43]⟩:ByteArray)=some (hasC x.f0 43):=by rw[← hasB_eq];rfl);(have ec2:strings_Contains.f x.f0 (⟨#[45]⟩:ByteArray)=some (hasC x.f0 45):=by rw[← hasB_eq];rfl)
   have et:strings_Trim.f x.f0 (⟨#[32,43,45]⟩:ByteArray)=some ⟨(Lib.trimS x.f0.data.toList [32,43,45]).toArray⟩:=by
    rw[strings_Trim.f,if_pos ⟨by omega,by decide,by decide⟩]
   have htc:=trim_chars x.f0;obtain⟨tr,htr⟩ : ∃ tr,(⟨(Lib.trimS x.f0.data.toList [32,43,45]).toArray⟩:ByteArray)=tr:=⟨_,rfl⟩;(rw[htr] at et htc);obtain⟨p,hp⟩ : ∃ p,hasC x.f0 43=p:=⟨_,rfl⟩;obtain⟨q,hq⟩ : ∃ q,hasC x.f0 45=q:=⟨_,rfl⟩;(rw[hp] at ec1);(rw[hq] at ec2);rw[hp,hq]
   have e0 : ∀ k,hunk_May.l0 (k+1) rows rows (rows.length:Int) (i:Int) =
    if (x.f0.size:Int)=(n:Int) then (if (x.f0.size:Int) < 1 then some false else if (x.f0.size:Int) > 16 then some false else if tr.toList=[] then (if (p && q)=true then some false else (lines_May.f k [x.f1]).bind fun t=>if t=true then hunk_May.l0 k rows rows (rows.length:Int) ((i+1:Nat):Int) else some false) else some false) else some false:=fun k=>by
    rw[hunk_May.l0,if_pos (by omega),if_pos (by omega),if_pos (by omega),hrd,et,Option.bind_some,ec1,Option.bind_some,ec2,hn,gw1 (by omega)]
    cases p with
    | true =>
     rw[if_pos rfl,Option.bind_some,if_pos (by omega)];(cases q <;> rfl)
    | false =>
     rw[if_neg (by decide),if_pos (by omega)];rfl
   by_cases h1:x.f0.size=n
   ·
    by_cases h2:x.f0.size < 1
    ·
     refine(Gives.of (r:=false) fun k=>?_).eq ?_;(· show hunk_May.l0 (k+1) rows rows (rows.length:Int) (i:Int)=_;rw[e0,if_pos (by omega),if_pos (by omega)]);(· (rw[decide_eq_false (show ¬ (1≤n∧n≤16) by omega)];rfl))
    ·
     by_cases h3:16 < x.f0.size
     ·
      refine(Gives.of (r:=false) fun k=>?_).eq ?_;(· show hunk_May.l0 (k+1) rows rows (rows.length:Int) (i:Int)=_;rw[e0,if_pos (by omega),if_neg (by omega),if_pos (by omega)]);(· (rw[decide_eq_false (show ¬ (1≤n∧n≤16) by omega)];rfl))
     ·
      rw[decide_eq_true (show (1≤n∧n≤16) by omega),decide_eq_true h1,Bool.true_and,Bool.true_and]
      cases hc:x.f0.data.toList.all okC with
      | false =>
       rw[Bool.false_and,Bool.false_and];(refine Gives.of fun k=>?_);show hunk_May.l0 (k+1) rows rows (rows.length:Int) (i:Int)=_;rw[e0,if_pos (by omega),if_neg (by omega),if_neg (by omega),if_neg (fun h=>by rw[htc.1 h] at hc;cases hc)]
      | true =>
       rw[Bool.true_and]
       cases hpq:(p && q) with
       | true =>
        (refine Gives.of fun k=>?_);show hunk_May.l0 (k+1) rows rows (rows.length:Int) (i:Int)=_;(rw[e0,if_pos (by omega),if_neg (by omega),if_neg (by omega),if_pos (htc.2 hc),hpq,if_pos rfl];rfl)
       | false =>
        rw[Bool.not_false,Bool.true_and]
        cases hm:mayL [x.f1] with
        | false =>
         (rw[hm] at hmay);rw[Bool.false_and];(refine Gives.last hmay fun k hk=>?_);show hunk_May.l0 (k+1) rows rows (rows.length:Int) (i:Int)=_;(rw[e0,if_pos (by omega),if_neg (by omega),if_neg (by omega),if_pos (htc.2 hc),hpq,if_neg (by decide),hk];rfl)
        | true =>
         (rw[hm] at hmay);rw[Bool.true_and];(rw[decide_eq_true (show (1≤n∧n≤16) by omega)] at hnx);(refine Gives.call hmay hnx fun k hk=>?_);show hunk_May.l0 (k+1) rows rows (rows.length:Int) (i:Int)=_;rw[e0,if_pos (by omega),if_neg (by omega),if_neg (by omega),if_pos (htc.2 hc),hpq,if_neg (by decide),hk,Option.bind_some,if_pos rfl]
   ·
    refine(Gives.of (r:=false) fun k=>?_).eq ?_;(· show hunk_May.l0 (k+1) rows rows (rows.length:Int) (i:Int)=_;rw[e0,if_neg (by omega)]);(· rw[decide_eq_false h1,Bool.false_and,Bool.and_false,Bool.and_false,Bool.false_and])
 (refine((key rows.length 0 (by omega)).eq ?_).same fun k=>rfl);(rw[mayB,hn];rfl)
end Go.Proofs.YthcnfflhejogfaaDoor.X
namespace Go.Proofs.YthcnfflhejogfaaDoor.X
open Go
theorem handed_and_shaped {H:Type} {enc:TypeId × Value→H} {a:Assume} {C:Checked} {os:Os} {f:FuncId} {fn:Func} {s:ChangeSpec} {conds:List PathCond} {apart fresh handsOn again:Bool} {X:World→Array Value→Prop}
    (hX : ∀ (w w':World) (args:Array Value),w.heap=w'.heap→X w args→X w' args)
    (own:ownKnob C.prog.godebug=none) (started:os.Started) (noInit:C.prog.inits.idxOf? f=none) (hfn:C.prog.funcs[f]? = some fn)
    (witness : ∃ (w:World) (tape:Tape) (i:Input),w.os=os∧(w.forCall tape i).Shaped C.prog∧i.vars=[]∧Input.okWide C.prog (w.forCall tape i) .any w.heap.size f i ∧
      ((s.pre enc C.prog fn conds apart (w.forCall tape i).memory i.args∧X (w.forCall tape i).memory i.args)∧sizedMet enc C.prog fn (OpenSpec.ofChange s) apart (w.forCall tape i).memory i.args)∧a.holds C.prog (lone (Frame.enter C.prog f i.args .normal) [] (w.forCall tape i)))
    (contract : ∀ (W:World) (base:Nat) (args:Array Value) (ds gs:List (DataW H)) (before:List MemPlace),
      (∀ (j:Nat) t v,fn.params[j]? = some t→args[j]? = some v→Value.okWide C.prog W .any base t v) →
      DataW.Whole enc C.prog fn.params.toList s.vars apart W args.toList ds gs before →
      conds.all (PathCond.test C.prog ⟨fn.params.toList,ds,s.plain.varTypes C.prog,gs⟩)=true →
      (DataW.weightsEach C.prog (fn.params.toList ++ s.plain.varTypes C.prog) (ds ++ gs)).all (· ≤ reachBytes)=true→X W args→W.ShapedOpen C.prog →
      a.holds C.prog (lone (Frame.enter C.prog f args .normal) [] W) →
      Calls C.prog f args W fun e W' => ∃ v,e = .returned v∧s.post enc C.prog fn apart fresh handsOn again W args v W') :
    ReturnsInHanded a C os f .any (fun w args=>(s.pre enc C.prog fn conds apart w args∧X w args)∧sizedMet enc C.prog fn (OpenSpec.ofChange s) apart w args) (s.post enc C.prog fn apart fresh handsOn again):=by
  refine returnsInHanded_of_calls own started noInit witness ?_
  intro w tape i _ hsh _ hok hpre hholds
  obtain⟨_,_,_,fn',hfn',_,_,_,_,hval⟩:=hok
  have e:fn'=fn:=Option.some.inj (hfn'.symm.trans hfn)
  subst e
  obtain⟨⟨⟨ds,gs,before,hw,hc⟩,hx⟩,hz⟩:=hpre
  have hw':=DataW.Whole.of_heap (w':=w.forCall tape i) (by rfl) hw
  refine(contract (w.forCall tape i) w.heap.size i.args ds gs before hval hw' hc (hz.weights hw) (hX _ _ _ (by rfl) hx) hsh hholds).mono fun e W' ⟨v,he,hp⟩=>?_
  subst he
  exact ChangeSpec.post_blind hp
theorem max_of_shape {w:World} (h:w.ShapedOpen Tryd.prog):MaxAt w:=by
 obtain⟨m,hm⟩:=Go.Proofs.cell_of_shapedOpen_int (P:=Tryd.prog) (g:=0) (t:=3) (zero:=#[.int .i64 0]) h (of_decide_eq_true (by kernel_rfl)) (by kernel_rfl) rfl (by kernel_rfl) (by kernel_rfl) Tryd.underlying3;exact⟨World.block_lt_of_cell? w _ hm,m,hm⟩
end Go.Proofs.YthcnfflhejogfaaDoor.X
namespace Go.Proofs.YthcnfflhejogfaaDoor.X
open Go.RowKit Go.Proofs.YthcnfflhejogfaaDoorW.PrintWords Go.Proofs.YthcnfflhejogfaaDoorW.PrintLast Go.Proofs.YthcnfflhejogfaaDoorW.PrintMore
theorem KeepsOthers.of_below {W W':World} (h:Below W.heap.size W W'):KeepsOthers W W':=⟨h.size,fun k o hk _=>farKeep hk h⟩
theorem groupsGo_hit {rows:List Row57} {r i:Nat} (h:i < rows.length) (hm:markB rows[i]=true):groupsGo rows (r+1) i=⟨(i:Int),(groupEnd rows i:Int)⟩ :: groupsGo rows r (groupEnd rows i):=by
 rw[groupsGo,dif_pos h,if_pos hm]
theorem groupsGo_miss {rows:List Row57} {r i:Nat} (h:i < rows.length) (hm:markB rows[i]=false):groupsGo rows (r+1) i=groupsGo rows r (i+1):=by
 rw[groupsGo,dif_pos h,if_neg (by rw[hm];decide)]
theorem groupsGo_end {rows:List Row57} {i:Nat} (h : ¬ i < rows.length) : ∀ r,groupsGo rows r i=[]
 | 0=>rfl
 | r+1=>by rw[groupsGo,dif_neg h]
attribute [local go_sem] Oper.semAt_some
set_option maxHeartbeats 4000000 in
theorem groups_goes {σ:Type} (n gb:Nat) (A:Option Addr) (c:Nat) (rows:List Row57) (hl:rows.length≤1000000) (hz : ∀ x ∈ rows,x.f0.size≤1000000) (I:σ→World→Prop) (ok:σ→Span45→Prop) (step:σ→Span45→σ) (s0:σ)
    (hI : ∀ s W,I s W→W.cell? ⟨gb,0,none⟩=some (.slice A rows.length c)∧Kd.C k57 W A rows.length rows) (hb : ∀ s W W',I s W→Below W.heap.size W W'→I s W')
    (hok : ∀ told x rest,told ++ x :: rest=groupsGo rows (rows.length+1) 0→ok (told.foldl step s0) x) :
    IterGoes Fence.wide n Tryd.prog 83 #[.pointer (some ⟨gb,0,none⟩)] (fun x:Span45=>#[.agg #[.int .i64 x.f0, .int .i64 x.f1]]) I ok step (fun s=>s=(groupsGo rows (rows.length+1) 0).foldl step s0) s0:=by
 intro l B hB hY W hI0 hBW;refine callsIn_of_wp Tryd.func83 rfl trivial ?_ rfl;simp only[Tryd.ntmps83,List.size_toArray,List.length_cons,List.length_nil,Nat.reduceAdd,Nat.reduceSub,Array.replicate_succ,Array.replicate_zero,List.push_toArray,List.append_toArray,List.nil_append,List.cons_append];obtain⟨G,hG⟩ : ∃ G,groupsGo rows (rows.length+1) 0=G:=⟨_,rfl⟩;(rw[hG] at hok ⊢);have HG:=Aside0.mk hG;have HB:=Aside0.mk hB;have HY:=Aside0.mk hY;have HI:=Aside0.mk hI;have HBS:=Aside0.mk hb;have HOK:=Aside0.mk hok;have HI0:=Aside0.mk hI0;have HBW:=Aside0.mk hBW;have HZ:=Aside0.mk hz;clear hB hY hI hb hok hI0 hBW hz hG;gi_wp2;refine wpIn_wide.2 (wp_scope_straight ((wpIn_wide (n:=n)).1 ?_));gi_wp2;apply wpIn_label;gi_wp2
 gi_loopw [3] (fun v wr => ∃ (i r:Nat) (told:List Span45),v = .int .i64 i∧i≤rows.length∧rows.length < r+i∧Aside0 (told ++ groupsGo rows r i=G)∧Aside0 (I (told.foldl step s0) wr)∧Aside0 (B wr)) (fun v _=>rows.length - (intOf v).toNat)
 (case atStart=>exact⟨0,rows.length+1,[],rfl,Nat.zero_le _,by omega,⟨HG.out⟩,HI0,HBW⟩)
 case round =>
  obtain⟨i,r,told,rfl,hi,hr,HT,HIr,HBr⟩:=hrel;have x1:=(HI.out _ _ HIr.out).1
  by_cases hlt:i < rows.length
  ·
   obtain⟨r,rfl⟩ : ∃ q,r=q+1:=⟨r - 1,by omega⟩;have hC:=(HI.out _ _ HIr.out).2;obtain⟨ad,rfl,y0,y1⟩:=at_T57 hC (i:Int) (by omega) (by omega);have hx:rd_T57 rows (i:Int)=rows[i]:=getN hlt;(rw[hx] at y0 y1);(rw[show (i:Int).toNat=i by omega] at y0 y1);have hsz:=HZ.out _ (List.getElem_mem hlt);have hmk:=hunk_marked rows[i] hsz wr;obtain⟨b,hbb⟩ : ∃ b,markB rows[i]=b:=⟨_,rfl⟩;(rw[hbb] at hmk);have HBB:=Aside0.mk hbb;have HMK:=Aside0.mk hmk;clear hmk hbb hC hx;(gi_wp2_with fail);refine⟨trivial,fun h=>(by cases h),?_⟩;refine(callsIn_wide.2 HMK.out).mono ?_;rintro e w2 ⟨rfl,hb2⟩;have HI2:Aside0 (I (told.foldl step s0) w2):=⟨HBS.out _ _ _ HIr.out hb2⟩;have HB2:Aside0 (B w2):=⟨HB.out _ _ HBr.out (KeepsOthers.of_below hb2)⟩;obtain⟨wq,rfl⟩ : ∃ wq,wq=wr:=⟨_,rfl⟩;clear hb2 x1 y0 y1 HMK
   cases b with
   | false =>
    gi_wp2;go_roundw;(case measure=>simp[intOf];omega);(case rel=>exact⟨i+1,r,told,by go_num,by omega,by omega,⟨by have:=HT.out;rwa [groupsGo_miss hlt HBB.out] at this⟩,HI2,HB2⟩)
   | true =>
    have hge:=groupEnd_step hlt HBB.out;have hge2:=(groupEnd_le rows (i:=i+1) (by omega)).1;have HTG:Aside0 (told ++ ⟨(i:Int),(groupEnd rows i:Int)⟩ :: groupsGo rows r (groupEnd rows i)=G):=⟨by have:=HT.out;rwa [groupsGo_hit hlt HBB.out] at this⟩;(rw[← hge] at hge2);obtain⟨T,hT⟩ : ∃ T,groupEnd rows i=T:=⟨_,rfl⟩;(rw[hT] at HTG hge2);have HGE:=Aside0.mk hT;clear hge hT;gi_wp2
    gi_loopw [3] (fun v wx => ∃ (j:Nat),v = .int .i64 j∧i≤j∧j≤rows.length∧Aside0 (groupEnd rows j=T)∧Aside0 (I (told.foldl step s0) wx)∧Aside0 (B wx)) (fun v _=>rows.length - (intOf v).toNat)
    (case atStart=>exact⟨i,rfl,Nat.le_refl _,by omega,HGE,HI2,HB2⟩)
    case round =>
     obtain⟨j,rfl,hij,hj,HJ,HIx,HBx⟩:=hrel;have x2:=(HI.out _ _ HIx.out).1
     by_cases hjl:j < rows.length
     ·
      have hC:=(HI.out _ _ HIx.out).2;obtain⟨ad2,hae,y0,y1⟩:=at_T57 hC (j:Int) (by omega) (by omega);cases hae;have hx:rd_T57 rows (j:Int)=rows[j]:=getN hjl;(rw[hx] at y0 y1);(rw[show (j:Int).toNat=j by omega] at y0 y1);have hsz2:=HZ.out _ (List.getElem_mem hjl);have hmk:=hunk_marked rows[j] hsz2 wr;obtain⟨b,hbb⟩ : ∃ b,markB rows[j]=b:=⟨_,rfl⟩;(rw[hbb] at hmk);have HBB2:=Aside0.mk hbb;have HMK:=Aside0.mk hmk;clear hmk hbb hC hx;(gi_wp2_with fail);refine⟨trivial,fun h=>(by cases h),?_⟩;refine(callsIn_wide.2 HMK.out).mono ?_;rintro e w3 ⟨rfl,hb3⟩;have HI3:Aside0 (I (told.foldl step s0) w3):=⟨HBS.out _ _ _ HIx.out hb3⟩;have HB3:Aside0 (B w3):=⟨HB.out _ _ HBx.out (KeepsOthers.of_below hb3)⟩;clear hb3 x2 y0 y1 HMK
      cases b with
      | true =>
       gi_wp2;go_roundw;(case measure=>simp[intOf];omega);(case rel=>exact⟨j+1,by go_num,by omega,by omega,⟨by rw[← groupEnd_step hjl HBB2.out];exact HJ.out⟩,HI3,HB3⟩)
      | false =>
       (obtain rfl:j=T:=by rw[← HJ.out,groupEnd_stop hjl HBB2.out]);have HTT:=HTG;have x2:=(HI.out _ _ HI3.out).1;obtain⟨fn,tmps,assign,body,hy,hR⟩:=HY.out _ (⟨(i:Int),(j:Int)⟩:Span45) w3 HI3.out HB3.out (HOK.out told _ (groupsGo rows r j) HTT.out);(dsimp only at hy);clear x2;gi_wp2;refine⟨fun h=>(by cases h),hR.mono ?_⟩;rintro e W3 ⟨rfl,hI3,hB3⟩;have HI3:=Aside0.mk hI3;have HB3:=Aside0.mk hB3;clear hI3 hB3 hy hR;gi_wp2;go_roundw;(case measure=>simp[intOf];omega);(case rel=>exact⟨j,r,told ++ [⟨(i:Int),(j:Int)⟩],by go_num,by omega,by omega,⟨by rw[List.append_assoc];exact HTT.out⟩,⟨by rw[List.foldl_append];exact HI3.out⟩,HB3⟩)
     (· (obtain rfl:j=T:=by rw[← HJ.out,groupEnd_end (by omega)]);have HTT:=HTG;obtain⟨fn,tmps,assign,body,hy,hR⟩:=HY.out _ (⟨(i:Int),(j:Int)⟩:Span45) wr HIx.out HBx.out (HOK.out told _ (groupsGo rows r j) HTT.out);(dsimp only at hy);gi_wp2;refine⟨trivial,?_⟩;gi_wp2;refine⟨fun h=>(by cases h),hR.mono ?_⟩;rintro e W3 ⟨rfl,hI3,hB3⟩;have HI3:=Aside0.mk hI3;have HB3:=Aside0.mk hB3;clear hI3 hB3 hy hR;gi_wp2;go_roundw;(case measure=>simp[intOf];omega);(case rel=>exact⟨j,r,told ++ [⟨(i:Int),(j:Int)⟩],by go_num,by omega,by omega,⟨by rw[List.append_assoc];exact HTT.out⟩,⟨by rw[List.foldl_append];exact HI3.out⟩,HB3⟩))
  ·
   (have hk':i=rows.length:=by omega);subst hk';have HG2:Aside0 (told=G):=⟨by have:=HT.out;rwa [groupsGo_end hlt,List.append_nil] at this⟩;gi_wp2;rw[Exit.noGoto_normal];go_end0;refine⟨⟨_,rfl⟩,?_⟩
   first
    | exact⟨by rw[← HG2.out];exact HIr.out,HBr.out⟩
    | exact⟨_,rfl,by rw[← HG2.out];exact HIr.out,HBr.out⟩
end Go.Proofs.YthcnfflhejogfaaDoor.X
namespace Go.Proofs.YthcnfflhejogfaaDoor.X
open Go.RowKit Go.Proofs.YthcnfflhejogfaaDoorW.PrintWords Go.Proofs.YthcnfflhejogfaaDoorW.PrintLast Go.Proofs.YthcnfflhejogfaaDoorW.PrintMore
attribute [local go_sem] Oper.semAt_some
theorem wpIn_range_box {σ α:Type} {F:Fence} {n:Nat} {P:Program} {g:Operand} {ps:Array Tmp} {assign body:Code} {Q:Exit→Act→World→Prop} {a:Act} {w:World}
    (hro:F.round=none) (h1:1≤n) {gf:Nat} {lb:Array Value} (hg:a.eval g = .func (.func gf) #[] lb) (hFg:F.fn gf) (eg : ∀ args w,(callFunc gf args).run P w = .ok (.enter gf args) w)
    {encs:α→Array Value} (hps : ∀ x,(encs x).size=ps.size) {I:σ→World→Prop} {ok:σ→α→Prop} {step:σ→α→σ} {S:σ→Prop} {s0:σ}
    (hit:IterGoes F (n - 1) P gf lb encs I ok step S s0) (rs:Tmp) (H:α→Nat→World→Prop)
    (hput : ∀ s W (r:Nat) (o o':Obj),I s W→w.heap.size≤r→W.heap[r]? = some o→o.isCells=false→I s (W.putObj r o'))
    (hHput : ∀ x b W (r:Nat) (o o':Obj),H x b W→W.heap[r]? = some o→o.isCells=false→H x b (W.putObj r o'))
    (halloc : ∀ s W (o:Obj),I s W→I s (W.alloc o)) (h0:I s0 w)
    (hassign : ∀ (l:Nat) (s:σ) (x:α) (W:World) (K:Act→World→Prop),I s W→ok s x→(∀ b W',I s W'→KeepsOthers W W'→H x b W'→K { tmps:=((ps.zip (encs x)).foldl (fun t (p,v)=>t.setIfInBounds p v) a.tmps).setIfInBounds rs (.pointer (some ⟨b,0,none⟩)),defers:=[] } W') →
      assign.wpIn (F.inRound l) (n - 1 - 1) P (Exit.then K (fun _ _ _=>False)) { tmps:=(ps.zip (encs x)).foldl (fun t (p,v)=>t.setIfInBounds p v) a.tmps,defers:=[] } W)
    (hbody : ∀ (l:Nat) (s:σ) (x:α) (b:Nat) (W:World),I s W→ok s x→H x b W→body.wpIn (F.inRound l) (n - 1 - 1) P (fun e _ W'=>e = .normal∧KeepsOthers W W'∧I (step s x) W') { tmps:=((ps.zip (encs x)).foldl (fun t (p,v)=>t.setIfInBounds p v) a.tmps).setIfInBounds rs (.pointer (some ⟨b,0,none⟩)),defers:=[] } W)
    (hdone : ∀ (s:σ) (W:World),S s→I s W→W.heap[w.heap.size]? = some (.deferred (some []))→Q .normal { a with defers:={ target := .collected w.heap.size,args:=#[] } :: a.defers } W) :
    (Code.rangeFunc g ps assign body).wpIn F n P Q a w:=by
  refine wpIn_rangeFunc fun fn hfn=>?_
  rw[hro]
  let rec_:LoopState→Option Code→Loop:=fun st pe=>{ state:=st,pending:=pe,fn:=fn,tmps:=a.tmps,params:=ps,assign:=assign,body:=body,defers:=w.heap.size }
  let W1:=(w.alloc (.deferred (some []))).alloc (.loop (rec_ .ready none))
  have hl1:W1.heap[w.heap.size+1]? = some (.loop (rec_ .ready none)):=by
    have:=World.alloc_heap_new (w.alloc (.deferred (some []))) (.loop (rec_ .ready none))
    rwa [World.size_alloc] at this
  have hd1:W1.heap[w.heap.size]? = some (.deferred (some [])):=(Below.heap_alloc _ _ _ (by simp)).trans (World.alloc_heap_new w _)
  refine⟨w.heap.size+1,[{ target := .collected w.heap.size,args:=#[] }],W1,{ target := .fn (.func gf) lb,args:=#[.func (.yield (w.heap.size+1)) #[] #[]] },W1,gf,
    #[.func (.yield (w.heap.size+1)) #[] #[]] ++ lb,W1,run_enterLoop_outer _ _ _ _ _,?_,?_,?_,fun _=>h1,?_⟩
  · simp only[resolve,hg]
    simp[go_sem]
  · intro f' hf'
    simp[Target.leads] at hf'
    subst hf'
    exact hFg
  · simp[invoke,go_sem,eg]
  · refine(hit (w.heap.size+1) (fun W=>W.heap[w.heap.size+1]? = some (.loop (rec_ .ready none))∧W.heap[w.heap.size]? = some (.deferred (some [])))
      (fun W W' h k=>⟨k.same _ _ h.1 rfl,k.same _ _ h.2 rfl⟩) ?_ W1 (halloc _ _ _ (halloc _ _ _ h0)) ⟨hl1,hd1⟩).mono ?_
    · rintro s x W hI ⟨hl,hd⟩ hok
      refine⟨fn,_,assign,body,run_yield (P:=P) (args:=encs x) hl (hps x),roundIn_of_wpIn hfn (hassign _ s x W _ hI hok fun b' W' hI' hk' hH'=>?_)⟩
      have hl':=hk'.same _ _ hl rfl
      have hd':=hk'.same _ _ hd rfl
      have hlt:w.heap.size+1 < W'.heap.size:=(Array.getElem?_eq_some_iff.1 hl').1
      refine⟨_,run_beginRound hl' rfl,?_⟩
      have hl2:(W'.putObj (w.heap.size+1) (.loop (rec_ .busy none))).heap[w.heap.size+1]? = some (.loop (rec_ .busy none)):=World.putObj_heap_same hlt
      have hd2:(W'.putObj (w.heap.size+1) (.loop (rec_ .busy none))).heap[w.heap.size]? = some (.deferred (some [])):=(World.putObj_heap_other (by omega)).trans hd'
      refine wpIn_mono (hbody _ s x _ _ (hput _ _ _ _ _ hI' (by omega) hl' rfl) hok (hHput _ _ _ _ _ _ hH' hl' rfl)) ?_
      rintro e a3 W3 ⟨rfl,hk3,hi3⟩
      have hl3:=hk3.same _ _ hl2 rfl
      have hd3:=hk3.same _ _ hd2 rfl
      exact⟨_,_,run_endRound (P:=P) none hl3,rfl,hput _ _ _ _ _ hi3 (by omega) hl3 rfl,World.putObj_heap_same (Array.getElem?_eq_some_iff.1 hl3).1,(World.putObj_heap_other (by omega)).trans hd3⟩
    · rintro e W2 ⟨⟨v,rfl⟩,s,hS,hi,hl,hd⟩
      exact⟨none,_,run_endLoop (P:=P) hl (by simp[rec_]),hdone s _ hS (hput _ _ _ _ _ hi (by omega) hl rfl) ((World.putObj_heap_other (by omega)).trans hd)⟩
section
variable {F:Fence} {nF:Nat} {P:Program} {ops:Array Oper} {rest:List Oper} {o:Oper} {a:Act} {Q:Exit→Act→World→Prop}
theorem R_appendIn {α:Type} (d:Kd α) {W:World} (base:Nat) (hgd:o.guard=none) (s x:Operand) (t e:TypeId) (z:Value) (bytes:Nat)
    (ho:o.op = .call { callee := .builtin .append,args:=#[s,x],argTypes:=#[t,t] })
    (ht:P.underlying t=some (.slice e)) (hinfo:(P.info? e).map (fun i=>(i.zero,i.size,i.bytes))=some (some z,d.sz,bytes)) (hz:z.cells.size=d.sz) (hs0:0 < d.sz)
    (v:Value) (xs:List α) (p:α) (cs:List Value) (hs:a.eval s=v) (hx:a.eval x = .slice (some ⟨W.heap.size,0,none⟩) 1 1) (hp:d.M (W.alloc (.cells cs.toArray e)) base (fun k=>True∧some k≠v.ownBlock) p cs)
    (HO:d.R e W base (fun _=>True) v xs) (hbase:base≤W.heap.size) (hl:xs.length≤1000000000) (hb:bytes≤1000)
    (h : ∀ v1 w1,d.R e w1 base (fun _=>True) v1 (xs ++ [p])→(W.alloc (.cells cs.toArray e)).grownBy w1 v.ownBlock→wpListIn F nF P ops Q rest (a.put o.dst v1) w1) :
    wpListIn F nF P ops Q (o :: rest) a (W.alloc (.cells cs.toArray e)):=by
 have HO2:=Kd.R_below HO (newBelow W (.cells cs.toArray e));obtain⟨h0,inner,hown,hr⟩:=HO2;obtain⟨i0,hi,hzz⟩:=Option.map_eq_some_iff.1 hinfo;(simp only[Prod.mk.injEq] at hzz);obtain⟨hz1,hz2,hz3⟩:=hzz;have hcl:cs.length=d.sz:=d.K_len (d.K_of_M hp);have hc1:=d.K_one (d.K_of_M hp);have hmul:(xs.length+1) * bytes≤(xs.length+1) * 1000:=Nat.mul_le_mul_left _ hb;refine wpListIn_append_own_at _ hgd s x t ho base e i0 z d.sz bytes ht hi hz1 hz2 hz3 hz hs0 v xs.length inner hs hown ⟨W.heap.size,0,none⟩ 1 1 cs hx (by rw[hcl,Nat.one_mul]) (fun j u hu=>?_) hc1 (by unfold maxLen;omega) (by omega) (by simp;omega) ?_;(· rw[show (⟨W.heap.size,0,none⟩:Addr).add j=⟨W.heap.size,j,none⟩ by unfold Addr.add;split <;> simp_all];exact cell_blk (blk_new W _) (by rw[List.getElem?_toArray];exact hu));(· intro v' w' hown' hg' _ hat';have hat:v'.ownBlock=v.ownBlock ∨ ∃ b,v'.ownBlock=some b∧(W.alloc (.cells cs.toArray e)).heap.size≤b:=hat'.imp id (fun h=>⟨_,h,Nat.le_refl _⟩);exact h v' w' (Kd.R_appended (fun _ _=>trivial) hr hp (fun _ hk=>hk) (fun _ _=>trivial) hown' hg' hat) hg')
end
theorem R_putObj {α:Type} {d:Kd α} {W:World} {e base r:Nat} {ok:Nat→Prop} {v:Value} {xs:List α} {o:Obj} (h:Kd.R d e W base ok v xs) (o':Obj) (hl:W.heap[r]? = some o) (ho:o.isCells=false):Kd.R d e (W.putObj r o') base ok v xs:=by
 refine Kd.R_mono (Kd.R_step (Kd.R_bound h) (fun k hk hlt=>?_)) (fun _ hk=>hk.1);refine(grownBy_putObj' W r o').block k hlt (fun e=>?_);cases e;obtain⟨_,_,_,q,hq,cells,hc⟩:=hk;(rw[hc] at hl);cases hl;cases ho
theorem putKeep {W:World} {r k:Nat} {o o':Obj} {cs:Array Value} {t:TypeId} {fr:Nat × Nat} (h:W.heap[k]? = some (.cells cs t fr)) (hl:W.heap[r]? = some o) (ho:o.isCells=false):(W.putObj r o').heap[k]? = some (.cells cs t fr):=by
 refine((grownBy_putObj' W r o').block k (blk_lt h) (fun e=>?_)).trans h;cases e;(rw[h] at hl);cases hl;cases ho
def GrI (w:World) (A:Option Addr) (n c:Nat) (s:List Span45) (W:World):Prop :=
  Below w.heap.size w W∧W.heap[w.heap.size+1]? = some (.cells #[.slice A n c] 36 (0,0)) ∧ ∃ v,W.heap[w.heap.size]? = some (.cells #[v] 46 (0,0))∧Kd.R k45 45 W w.heap.size (fun _=>True) v s
theorem GrI.below {w W W':World} {A:Option Addr} {n c:Nat} {s:List Span45} (h:GrI w A n c s W) (hb:Below W.heap.size W W'):GrI w A n c s W':=by
 obtain⟨h1,h2,v,h3,h4⟩:=h;exact⟨far_ h1 hb,farKeep h2 hb,v,farKeep h3 hb,Kd.R_below h4 hb⟩
theorem GrI.put {w W:World} {A:Option Addr} {n c:Nat} {s:List Span45} (h:GrI w A n c s W) {r:Nat} {o:Obj} (o':Obj) (hr:w.heap.size≤r) (hl:W.heap[r]? = some o) (ho:o.isCells=false):GrI w A n c s (W.putObj r o'):=by
 obtain⟨h1,h2,v,h3,h4⟩:=h;exact⟨h1.grown (grownBy_putObj' W r o') h1.size (fun k e=>by cases e;exact hr),putKeep h2 hl ho,v,putKeep h3 hl ho,R_putObj h4 o' hl ho⟩
theorem GrI.start (w:World) (A:Option Addr) (n c:Nat):GrI w A n c [] ((w.alloc (.cells #[.slice none 0 0] 46)).alloc (.cells #[.slice A n c] 36)):=by
 have b1:=newBelow w (.cells #[.slice none 0 0] 46);have n0:=blk_new w (.cells #[.slice none 0 0] 46);(have s0:(w.alloc (.cells #[.slice none 0 0] 46)).heap.size=w.heap.size+1:=by simp);obtain⟨wa,hwa⟩ : ∃ wa,w.alloc (.cells #[.slice none 0 0] 46)=wa:=⟨_,rfl⟩;(rw[hwa] at b1 n0 s0 ⊢);have n1:=blk_new wa (.cells #[.slice A n c] 36);(rw[s0] at n1);exact⟨b1.trans ((newBelow wa _).mono (by omega)),n1,_,newKeep n0 _,Kd.R_nil _ _ _ _ _⟩
theorem GrI.lay {w W w1:World} {A:Option Addr} {n c:Nat} {s s2:List Span45} {v v2:Value} {o:Array Value} (h:GrI w A n c s W) (hv:W.heap[w.heap.size]? = some (.cells #[v] 46 (0,0))) (hr:Kd.R k45 45 W w.heap.size (fun _=>True) v s)
    (hr2:Kd.R k45 45 w1 w.heap.size (fun _=>True) v2 s2) (hg:(W.alloc (.cells o 45)).grownBy w1 v.ownBlock) :
    GrI w A n c s2 (w1.setCell ⟨w.heap.size,0,none⟩ v2)∧KeepsOthers W (w1.setCell ⟨w.heap.size,0,none⟩ v2):=by
 obtain⟨h1,h2,_,_,_⟩:=h
 have hkeep : ∀ (k:Nat) cells t,W.heap[k]? = some (.cells cells t (0,0))→t≠45→w1.heap[k]? = some (.cells cells t (0,0)):=fun k cells t hk ht =>
  (hg.block k (by have:=blk_lt hk;simp;omega) (Kd.R_ne hr hk (fun e=>ht e.symm))).trans (newKeep hk _)
 have hbox:=hkeep w.heap.size _ _ hv (by decide);have k2:=hkeep _ _ _ h2 (by decide);refine⟨⟨?_,setKeep k2 (by omega) _,v2,by rw[heap_set_same hbox];rfl,Kd.R_set hr2 hbox (by decide) _ _⟩,?_⟩;(· have hb1:Below w.heap.size w (W.alloc (.cells o 45)):=h1.alloc h1.size _;exact(hb1.grown hg hb1.size (fun k e=>Kd.R_base hr k e)).setCell (p:=⟨w.heap.size,0,none⟩) (Nat.le_refl _) _);(· refine((KeepsOthers.alloc W _).trans (KeepsOthers.of_grownBy hg (fun j o' hj ho'=>?_))).trans (KeepsOthers.setCell _ _ _);obtain⟨inner,ho⟩:=Kd.R_own hr;obtain⟨cs',hc⟩:=own_typed ho j hj;(rw[newKeep hc] at ho');cases ho';rfl)
theorem groupsGo_len (rows:List Row57) : ∀ r i,(groupsGo rows r i).length≤r
 | 0,_=>Nat.zero_le _
 | r+1,i=>by
  rw[groupsGo];split
  ·
   split;(· (have:=groupsGo_len rows r (groupEnd rows i);rw[List.length_cons];omega));(· (have:=groupsGo_len rows r (i+1);omega))
  (· exact Nat.zero_le _)
theorem foldl_snoc {α:Type} : ∀ (l s:List α),l.foldl (fun s x=>s ++ [x]) s=s ++ l
 | [],s=>by simp
 | x :: l,s=>by rw[List.foldl_cons,foldl_snoc l];simp
theorem hunk_Groups (A:Option Addr) (c:Nat) (rows:List Row57) (w:World) (hC:Kd.C k57 w A rows.length rows) (hl:rows.length≤1000000) (hz : ∀ x ∈ rows,x.f0.size≤1000000) :
    Calls Tryd.prog 31 #[.slice A rows.length c] w fun e w' => ∃ v,e = .returned v∧Kd.R k45 45 w' w.heap.size (fun _=>True) v (groupsGo rows (rows.length+1) 0)∧Below w.heap.size w w':=by
 obtain⟨G,hG⟩ : ∃ G,groupsGo rows (rows.length+1) 0=G:=⟨_,rfl⟩;have hgl:=groupsGo_len rows (rows.length+1) 0;(rw[hG] at hgl ⊢);have HG:=Aside0.mk hG;have HC:=Aside0.mk hC;have HZ:=Aside0.mk hz;clear hC hz hG;refine(callsIn_wide (n:=3)).1 ?_;refine callsIn_of_wp_marks Tryd.func31 rfl trivial ?_ rfl;simp only[Tryd.ntmps31,List.size_toArray,List.length_cons,List.length_nil,Nat.reduceAdd,Nat.reduceSub,Array.replicate_succ,Array.replicate_zero,List.push_toArray,List.append_toArray,List.nil_append,List.cons_append];(gi_wp2_with (refine⟨trivial,?_⟩;refine(hunk_groups_in _ A rows.length c _).mono ?_;rintro e w' ⟨rfl,rfl⟩));have h0:=GrI.start w A rows.length c
 refine wpIn_range_box rfl (by omega) (gf:=83) (lb:=#[.pointer (some ⟨w.heap.size+1,0,none⟩)]) rfl trivial (enters_of Tryd.func83 (by kernel_rfl) rfl) (fun _=>rfl)
  (groups_goes _ (w.heap.size+1) A c rows hl HZ.out (GrI w A rows.length c) (fun s _=>s.length≤1000001) (fun s x=>s ++ [x]) []
   (fun s W h=>⟨cell_blk h.2.1 rfl,Kd.C_below HC.out h.1⟩) (fun s W W' h hb=>h.below hb) (fun told x rest e=>by
    rw[foldl_snoc,List.nil_append];have:=congrArg List.length e;(rw[HG.out,List.length_append,List.length_cons] at this)
    omega)) 4 (fun x b W=>W.heap[b]? = some (.cells #[.int .i64 x.f0, .int .i64 x.f1] 45 (0,0)))
  (fun s W r o o' hI hr hl ho=>hI.put o' (by simp at hr;omega) hl ho) (fun x b W r o o' hH hl ho=>putKeep hH hl ho) (fun s W o hI=>hI.below (newBelow W o)) h0 ?assign ?body ?done
 case assign =>
  intro l s x W K hI _ hK;have hk:=hK W.heap.size _ (hI.below (newBelow _ _)) (KeepsOthers.alloc _ _) (blk_new W (.cells #[.int .i64 x.f0, .int .i64 x.f1] 45));clear hK hI h0;gi_wp2;simpa using hk
 case body =>
  intro l s x b W hI hlen hH;have HI:=Aside0.mk hI;obtain⟨hbw,_,v,hv,hr⟩:=hI;obtain⟨Ao,co,rfl⟩:=Kd.R_slice hr;have xb:W.cell? ⟨w.heap.size,0,none⟩=some (.slice Ao s.length co):=cell_blk hv rfl;have h1:W.cell? ⟨b,0,none⟩=some (.int .i64 x.f0):=cell_blk hH rfl;have h2:W.cell? ⟨b,1,none⟩=some (.int .i64 x.f1):=cell_blk hH rfl;have HV:=Aside0.mk hv;have HR:=Aside0.mk hr;have HBW:Aside0 (w.heap.size≤W.heap.size):=⟨hbw.size⟩;clear hv hr hbw h0;(gi_wp2_with (gi_at_builtin;refine R_appendIn k45 (W:=W) w.heap.size rfl (.tmp 8) (.tmp 10) 46 45 (.agg #[.int .i64 0, .int .i64 0]) 16 rfl Tryd.underlying46 info45 rfl (by decide) (.slice Ao s.length co) s x [.int .i64 x.f0, .int .i64 x.f1] rfl rfl (k45_mkM _ _ _ _) HR.out HBW.out (by omega) (by decide) ?_;intro v1 w1 hr1 hg1;obtain⟨A9,c9,hv9⟩:=Kd.R_slice hr1;subst hv9;have g9:=(hg1.block w.heap.size (by have:=blk_lt HV.out;simp;omega) (Kd.R_ne HR.out HV.out (by decide))).trans (newKeep HV.out _);have y9:w1.cell? ⟨w.heap.size,0,none⟩=some (.slice Ao s.length co):=cell_blk g9 rfl;have f9:w1.frozen? ⟨w.heap.size,0,none⟩=false:=frozen_of_row _ _ _ _ _ g9;have HR1:=Aside0.mk hr1;have HG1:=Aside0.mk hg1;clear hr1 hg1 g9 xb h1 h2));have hlay:=GrI.lay HI.out HV.out HR.out HR1.out HG1.out;(have e:(s ++ [x]).length=s.length+1:=by simp);(rw[e] at hlay);exact⟨hlay.2,hlay.1⟩
 case done =>
  intro s W hS hI hK;(rw[foldl_snoc,List.nil_append,HG.out] at hS);subst hS;obtain⟨hbw,_,v,hv,hr⟩:=hI;have xb:W.cell? ⟨w.heap.size,0,none⟩=some v:=cell_blk hv rfl;have HR:=Aside0.mk hr;have HB:=Aside0.mk hbw;clear hr hbw hv h0;gi_wp2;refine⟨by simp, .inl ⟨_,_,rfl,run_takeDeferred hK,?_⟩⟩;exact⟨_,results_tmp rfl _ _ _,v,rfl,R_putObj HR.out _ hK rfl,HB.out.trans (belowK_b (w:=w) (Nat.le_refl _) W _ _ _ (by rw[World.size_alloc,World.size_alloc];omega) hK rfl rfl)⟩
end Go.Proofs.YthcnfflhejogfaaDoor.X
namespace Go.Proofs.YthcnfflhejogfaaDoor.X
open Go.RowKit Go.Proofs.YthcnfflhejogfaaDoorW.PrintWords Go.Proofs.YthcnfflhejogfaaDoorW.PrintLast Go.Proofs.YthcnfflhejogfaaDoorW.PrintMore
abbrev Hunk48:=S48
def cutR (rows:List Row57) (f t:Nat):List Row57:=(rows.take t).drop f
def keepB (rows:List Row57) (dense:Bool) (f t:Nat):Bool := !(dense && dullB (cutR rows f t))
noncomputable def showStep (rows:List Row57) (x:Nat) (dense:Bool) (s:List Bool) (g:Span45):List Bool:=if keepB rows dense g.f0.toNat g.f1.toNat=true then showF rows x g.f0.toNat g.f1.toNat s else s
theorem showStep_len (rows:List Row57) (x:Nat) (dense:Bool) (s:List Bool) (g:Span45):(showStep rows x dense s g).length=s.length:=by
 (unfold showStep;split);(· exact showF_len _ _ _ _ _);(· rfl)
theorem showFold_len (rows:List Row57) (x:Nat) (dense:Bool) : ∀ (G:List Span45) (s:List Bool),(G.foldl (showStep rows x dense) s).length=s.length
 | [],s=>rfl
 | g :: G,s=>by rw[List.foldl_cons,showFold_len rows x dense G,showStep_len]
noncomputable def shownP (rows:List Row57) (x:Nat) (dense:Bool):List Bool:=(groupsGo rows (rows.length+1) 0).foldl (showStep rows x dense) (List.replicate rows.length false)
def hunkOf (rows:List Row57) (f t:Nat):Hunk48 :=
  ⟨spansH (passR (rows.take f) (List.replicate (rd_T57 rows 0).f0.size 0)) (passR (rows.take t) (List.replicate (rd_T57 rows 0).f0.size 0)),⟨passN (rows.take f) 0,passN (rows.take t) 0⟩,cutR rows f t⟩
def cutsH (rows:List Row57) (sh:List Bool):List Hunk48:=(HkP.groupsGo id sh (sh.length+1) 0).map (fun p=>hunkOf rows p.1 p.2)
noncomputable def hunksP (rows:List Row57) (x:Int) (dense mb:Bool):List Hunk48 × Int :=
  if x < 0∨1000 < x then ([],1) else if mb=false then ([],2) else (cutsH rows (shownP rows x.toNat dense),0)
theorem own_raw {W:World} {base e g n:Nat} {xs:List Value} (h:W.ownsRow base e 1 (.slice (some ⟨g,0,none⟩) n n) n xs):W.heap[g]? = some (.cells xs.toArray e (0,0)):=by
 obtain⟨h1,h2|⟨g',cap,cur,he,_,hc,_,_,hs,ht⟩⟩:=h;(· cases h2.1);(· (injection he with a _ b);(cases a;subst b);rw[hc];rw[← ht,List.take_of_length_le (by rw[Array.length_toList,hs];exact Nat.le_refl _)])
theorem raw_own {W:World} {base e g n:Nat} {xs:List Value} (h:W.heap[g]? = some (.cells xs.toArray e (0,0))) (hl:xs.length=n) (hb:base≤g) (hn:n≤1000000):W.ownsRow base e 1 (.slice (some ⟨g,0,none⟩) n n) n xs :=
  ⟨by omega, .inr ⟨g,n,xs.toArray,rfl,hb,h,Nat.le_refl _,Nat.le_trans hn (by decide),by rw[List.size_toArray];omega,by show xs.take (n * 1)=xs;rw[Nat.mul_one];exact List.take_of_length_le (by omega)⟩⟩
theorem setCell_same {W:World} {g j:Nat} {cs:Array Value} {t:TypeId} {v:Value} (h:W.heap[g]? = some (.cells cs t (0,0))) (hv:cs[j]? = some v):W.setCell ⟨g,j,none⟩ v=W:=by
 have hlt:=(Array.getElem?_eq_some_iff.1 h).1;have hj:=(Array.getElem?_eq_some_iff.1 hv).1
 have e:W.heap.modify g (fun | .cells c elem frozen => .cells (if (none:Option Nat).isSome then c else c.setIfInBounds j v) elem frozen|o=>o)=W.heap:=by
  apply Array.ext_getElem?;intro k;rw[Array.getElem?_modify];split
  ·
   rename_i e;subst e;rw[h];simp only[Option.map_some,Option.isSome_none,Bool.false_eq_true, ↓reduceIte,Option.some.injEq,Obj.cells.injEq,and_true];apply Array.ext_getElem?;intro k;rw[Array.getElem?_setIfInBounds];split;(· rename_i e;subst e;exact hv.symm);(· rfl)
  (· rfl)
 unfold World.setCell;cases W;simp only[World.mk.injEq,and_true];exact e
theorem setCells_same {W:World} {g:Nat} {cs:Array Value} {t:TypeId} (h:W.heap[g]? = some (.cells cs t (0,0))) : ∀ (vs:List Value) (o:Nat),(∀ j v,vs[j]? = some v→cs[o+j]? = some v)→W.setCells g o vs=W
 | [],_,_=>rfl
 | v :: vs,o,hv=>by
  rw[World.setCells,setCell_same h (by simpa using hv 0 v rfl)];exact setCells_same h vs (o+1) (fun j u hu=>by have:=hv (j+1) u (by simpa using hu);rwa [show o+(j+1)=o+1+j by omega] at this)
theorem cutsH_nil (rows:List Row57) {sh:List Bool} (h:sh.length=0):cutsH rows sh=[]:=by
 (rw[cutsH,List.length_eq_zero_iff.1 h];rfl)
theorem shownP_len (rows:List Row57) (x:Nat) (dense:Bool):(shownP rows x dense).length=rows.length:=by
 rw[shownP,showFold_len,List.length_replicate]
theorem madeOne (z:Value) (n:Nat):madeCells #[z] (n * 1)=(List.replicate n z).toArray:=by
 apply Array.ext;(· simp[size_madeCells]);(· intro i h1 h2;simp[madeCells,Nat.mod_one])
theorem make_bools (n:Nat) (hn:n≤1000000) (W:World):(Instr.makeSlice 83 (.int .i64 (n:Int)) (.int .i64 (n:Int))).run Tryd.prog W = .ok (.slice (some ⟨W.heap.size,0,none⟩) n n) (W.alloc (.cells (Array.replicate n (.bool false)) 4)):=by
 obtain⟨i0,hi0,hz0⟩:=Option.map_eq_some_iff.1 info4;(simp only[Prod.mk.injEq] at hz0);obtain⟨hz,hsz,hby⟩:=hz0;have h:=run_make (P:=Tryd.prog) W 83 4 i0 (.bool false) Tryd.underlying83 hi0 hz .i64 .i64 (n:Int) (n:Int) (by omega) (by omega) (by rw[hby];omega) (by omega);rw[h,hsz];simp only[Int.toNat_natCast];rw[show (Value.bool false).cells=#[Value.bool false] from rfl,madeOne,List.toArray_replicate]
theorem make_ints (n:Nat) (hn:n≤1000000) (W:World):(Instr.makeSlice 76 (.int .i64 (n:Int)) (.int .i64 (n:Int))).run Tryd.prog W = .ok (.slice (some ⟨W.heap.size,0,none⟩) n n) (W.alloc (.cells (Array.replicate n (.int .i64 0)) 3)):=by
 obtain⟨i0,hi0,hz0⟩:=Option.map_eq_some_iff.1 info3;(simp only[Prod.mk.injEq] at hz0);obtain⟨hz,hsz,hby⟩:=hz0;have h:=run_make (P:=Tryd.prog) W 76 3 i0 (.int .i64 0) Tryd.underlying76 hi0 hz .i64 .i64 (n:Int) (n:Int) (by omega) (by omega) (by rw[hby];omega) (by omega);rw[h,hsz];simp only[Int.toNat_natCast];rw[show (Value.int .i64 0).cells=#[Value.int .i64 0] from rfl,madeOne,List.toArray_replicate]
theorem zeroBool (w:World):(zeroValue 4).run Tryd.prog w = .ok (.bool false) w:=by kernel_rfl
theorem clear_bools {W:World} {gs n:Nat} (hn:0 < n) (h:W.heap[gs]? = some (.cells (Array.replicate n (Value.bool false)) 4 (0,0))) (ty:TypeId):(Builtin.clear_ #[83] ty #[.slice (some ⟨gs,0,none⟩) n n]).run Tryd.prog W = .ok (.tuple #[]) W:=by
 (rw[← List.toArray_replicate] at h)
 have hj : ∀ j,j < n→(List.replicate n (Value.bool false)).toArray[j]? = some (.bool false):=fun j hj=>by
  rw[List.getElem?_toArray,List.getElem?_replicate,if_pos hj]
 rw[Lib.run_clear_slice W 83 4 ty (.bool false) Tryd.underlying83 zeroBool rfl rfl gs 0 n n hn (fun j hj'=>by rw[Nat.zero_add,cell_blk h (hj j hj')];rfl) (fun j _=>frozen_of_row _ _ _ _ _ h)]
 rw[setCells_same h _ 0 (fun j v hv=>by
  obtain⟨a,b⟩:=List.getElem?_eq_some_iff.1 hv;(rw[List.length_replicate] at a);(rw[List.getElem_replicate] at b);subst b
  rw[Nat.zero_add];exact hj j a)]
def cutAt (A:Option Addr) (c f:Nat):Option Addr:=if c=f then A else A.map (·.add (f * 2))
theorem cutR_len {rows:List Row57} {f t:Nat} (ht:t≤rows.length):(cutR rows f t).length=t - f:=by
 rw[cutR,List.length_drop,List.length_take,Nat.min_eq_left ht]
theorem cutR_mem {rows:List Row57} {f t:Nat} {x:Row57} (h:x ∈ cutR rows f t):x ∈ rows:=List.mem_of_mem_take (List.mem_of_mem_drop h)
theorem slice_rows2 (A:Option Addr) (n c lo hi':Nat) (h1:lo≤hi') (h2:hi'≤n) (hc:n≤c) :
    ∀ W:World,(Instr.slice 36 (.slice A n c) (some (.int .i64 (lo:Int))) (some (.int .i64 (hi':Int))) none).run Tryd.prog W = .ok (.slice (cutAt A c lo) (hi' - lo) (c - lo)) W:=by
 intro W;(have hel:Tryd.prog.elem 36=57:=by simp[Program.elem,Tryd.underlying36]);(have hu:Tryd.prog.underlying 36=some (.slice (Tryd.prog.elem 36)):=by rw[hel];exact Tryd.underlying36);obtain⟨i0,hi,hz⟩:=Option.map_eq_some_iff.1 info57;(simp only[Prod.mk.injEq] at hz);rw[run_slice_lh W 36 A n c hu .i64 .i64 (lo:Int) (hi':Int) (by omega) (by omega) (by omega),hel];(have e1:(lo:Int).toNat=lo:=by omega);(have e2:(hi':Int).toNat=hi':=by omega);simp[sizeOf,typeInfo,hi,hz.2.1,sliced,Result.andThen,e1,e2,cutAt]
theorem slice_rows3 (A:Option Addr) (n c lo hi':Nat) (h1:lo≤hi') (h2:hi'≤n) (hc:n≤c) :
    ∀ W:World,(Instr.slice 36 (.slice A n c) (some (.int .i64 (lo:Int))) (some (.int .i64 (hi':Int))) (some (.int .i64 (hi':Int)))).run Tryd.prog W = .ok (.slice (cutAt A hi' lo) (hi' - lo) (hi' - lo)) W:=by
 intro W;(have hel:Tryd.prog.elem 36=57:=by simp[Program.elem,Tryd.underlying36]);(have hu:Tryd.prog.underlying 36=some (.slice (Tryd.prog.elem 36)):=by rw[hel];exact Tryd.underlying36);obtain⟨i0,hi,hz⟩:=Option.map_eq_some_iff.1 info57;(simp only[Prod.mk.injEq] at hz);rw[run_slice_lhm W 36 A n c hu .i64 .i64 .i64 (lo:Int) (hi':Int) (hi':Int) (by omega) (by omega) (by omega) (by omega),hel];(have e1:(lo:Int).toNat=lo:=by omega);(have e2:(hi':Int).toNat=hi':=by omega);simp[sizeOf,typeInfo,hi,hz.2.1,sliced,Result.andThen,e1,e2,cutAt]
theorem C_cut2 {W:World} {A:Option Addr} {rows:List Row57} {c f t:Nat} (h:Kd.C k57 W A rows.length rows) (h1:f≤t) (h2:t≤rows.length) (hc:rows.length≤c):Kd.C k57 W (cutAt A c f) (cutR rows f t).length (cutR rows f t):=Kd.C_mid (c:=c) h h1 h2 hc
theorem F_cut3 {W:World} {ok:Nat→Prop} {A:Option Addr} {rows:List Row57} {f t:Nat} (h:Kd.F k57 W ok A rows.length rows) (h1:f≤t) (h2:t≤rows.length):Kd.F k57 W ok (cutAt A t f) (cutR rows f t).length (cutR rows f t):=by
 (have hl:(rows.take t).length=t:=by rw[List.length_take,Nat.min_eq_left h2]);exact Kd.F_cut (c:=t) (Kd.F_take h h2) (by omega) (by omega)
theorem groupsGo_ok (rows:List Row57) : ∀ (r i:Nat),∀ g ∈ groupsGo rows r i,∃ f t:Nat,g=⟨(f:Int),(t:Int)⟩∧f≤t∧t≤rows.length
 | 0,i,g,h=>by cases h
 | r+1,i,g,h=>by
  (rw[groupsGo] at h);(split at h)
  ·
   rename_i hi;(split at h)
   ·
    have:=groupEnd_le rows (i:=i) (by omega)
    rcases List.mem_cons.1 h with h|h
    (· exact⟨i,_,h,this.1,this.2⟩);(· exact groupsGo_ok rows r _ g h)
   (· exact groupsGo_ok rows r _ g h)
  (· cases h)
def BoxH (w:World) (v:Value) (x:Int) (dense:Bool) (W:World):Prop :=
  W.heap[w.heap.size]? = some (.cells #[v] 36 (0,0))∧W.heap[w.heap.size+1]? = some (.cells #[.int .i64 x] 3 (0,0))∧W.heap[w.heap.size+1+1]? = some (.cells #[.bool dense] 4 (0,0))
theorem BoxH.below {w W W':World} {v:Value} {x:Int} {dense:Bool} (h:BoxH w v x dense W) (hb:Below W.heap.size W W'):BoxH w v x dense W':=⟨farKeep h.1 hb,farKeep h.2.1 hb,farKeep h.2.2 hb⟩
theorem BoxH.start (w:World) (v:Value) (x:Int) (dense:Bool):BoxH w v x dense (((w.alloc (.cells #[v] 36)).alloc (.cells #[.int .i64 x] 3)).alloc (.cells #[.bool dense] 4))∧Below w.heap.size w (((w.alloc (.cells #[v] 36)).alloc (.cells #[.int .i64 x] 3)).alloc (.cells #[.bool dense] 4))∧(((w.alloc (.cells #[v] 36)).alloc (.cells #[.int .i64 x] 3)).alloc (.cells #[.bool dense] 4)).heap.size=w.heap.size+1+1+1:=by
 have b1:=newBelow w (.cells #[v] 36);have n0:=blk_new w (.cells #[v] 36);(have s0:(w.alloc (.cells #[v] 36)).heap.size=w.heap.size+1:=by simp);obtain⟨wa,hwa⟩ : ∃ wa,w.alloc (.cells #[v] 36)=wa:=⟨_,rfl⟩;(rw[hwa] at b1 n0 s0 ⊢);have b2:=b1.trans ((newBelow wa (.cells #[.int .i64 x] 3)).mono (by omega));have n1:=blk_new wa (.cells #[.int .i64 x] 3);have n0:=newKeep n0 (.cells #[.int .i64 x] 3);(have s1:(wa.alloc (.cells #[.int .i64 x] 3)).heap.size=wa.heap.size+1:=by simp);obtain⟨wb,hwb⟩ : ∃ wb,wa.alloc (.cells #[.int .i64 x] 3)=wb:=⟨_,rfl⟩;(rw[hwb] at b2 n0 n1 s1 ⊢);have n2:=blk_new wb (.cells #[.bool dense] 4);(rw[s0] at n1);(rw[s1,s0] at n2);exact⟨⟨newKeep n0 _,newKeep n1 _,n2⟩,b2.trans ((newBelow wb _).mono (by omega)),by rw[World.size_alloc];omega⟩
def ShI (w:World) (gs:Nat) (v:Value) (n:Nat) (x:Int) (dense:Bool) (s:List Bool) (W:World):Prop :=
  Below w.heap.size w W∧BoxH w v x dense W∧w.heap.size+1+1 < gs∧s.length=n∧W.heap[gs]? = some (.cells (s.map Value.bool).toArray 4 (0,0)) ∧
    W.heap[gs+1]? = some (.cells #[.slice (some ⟨gs,0,none⟩) n n] 83 (0,0))∧W.heap[gs+1+1]? = some (.cells #[v] 36 (0,0))
theorem ShI.below {w W W':World} {gs n:Nat} {v:Value} {x:Int} {dense:Bool} {s:List Bool} (h:ShI w gs v n x dense s W) (hb:Below W.heap.size W W'):ShI w gs v n x dense s W' :=
  ⟨far_ h.1 hb,h.2.1.below hb,h.2.2.1,h.2.2.2.1,farKeep h.2.2.2.2.1 hb,farKeep h.2.2.2.2.2.1 hb,farKeep h.2.2.2.2.2.2 hb⟩
theorem ShI.put {w W:World} {gs n:Nat} {v:Value} {x:Int} {dense:Bool} {s:List Bool} (h:ShI w gs v n x dense s W) {r:Nat} {o:Obj} (o':Obj) (hr:w.heap.size≤r) (hl:W.heap[r]? = some o) (ho:o.isCells=false):ShI w gs v n x dense s (W.putObj r o'):=by
 obtain⟨h1,⟨a,b,c⟩,h2,h3,h4,h5,h6⟩:=h;exact⟨h1.grown (grownBy_putObj' W r o') h1.size (fun k e=>by cases e;exact hr),⟨putKeep a hl ho,putKeep b hl ho,putKeep c hl ho⟩,h2,h3,putKeep h4 hl ho,putKeep h5 hl ho,putKeep h6 hl ho⟩
theorem ShI.shown {w W W':World} {gs n:Nat} {v:Value} {x:Int} {dense:Bool} {s s':List Bool} {ok:Nat→Prop} (h:ShI w gs v n x dense s W) (hk:Kept W W' (fun k=>k=gs)) (hb:Below w.heap.size w W') (hr:Kd.R Kd.bool 4 W' w.heap.size ok (.slice (some ⟨gs,0,none⟩) n n) s') (hl:s'.length=n):ShI w gs v n x dense s' W'∧KeepsOthers W W':=by
 obtain⟨h1,⟨a,b,c⟩,h2,h3,h4,h5,h6⟩:=h;(have keep : ∀ {k:Nat} {o:Obj},W.heap[k]? = some o→k≠gs→W'.heap[k]? = some o:=fun {k o} h hne=>(hk.2 k (Array.getElem?_eq_some_iff.1 h).1 hne).trans h);have ho:=Kd.own_of_R hr;(rw[hl] at ho);refine⟨⟨hb,⟨keep a (by omega),keep b (by omega),keep c (by omega)⟩,h2,hl,own_raw ho,keep h5 (by omega),keep h6 (by omega)⟩,hk.1,fun k o hko ho=>?_⟩;refine keep hko (fun e=>?_);subst e;(rw[h4] at hko);cases hko;cases ho
structure HuI (P:Nat→Prop) (w:World) (gs B d:Nat) (v:Value) (n:Nat) (x:Int) (dense:Bool) (sh:List Bool) (olds:List Int) (m:Int) (out:List Hunk48) (vo:Value) (W:World):Prop where
  bel:Below w.heap.size w W
  box:BoxH w v x dense W
  lo:w.heap.size+1+1 < gs
  hi:gs+1 < B
  top:B+1 < W.heap.size
  shown:W.heap[gs]? = some (.cells (sh.map Value.bool).toArray 4 (0,0))
  at8:W.heap[gs+1]? = some (.cells #[.slice (some ⟨gs,0,none⟩) n n] 83 (0,0))
  def_:W.heap[d]? = some (.deferred (some []))
  dlt:d < B
  ct:CtAt W (B+1) B olds m
  rows:Kd.N k48 48 W (B+1+1) (fun k=>(P k∧k < w.heap.size)∨B+1+1≤k) vo out
section
variable {P:Nat→Prop} {w:World} {gs B d:Nat} {v:Value} {n:Nat} {x:Int} {dense:Bool} {sh:List Bool} {olds olds':List Int} {m m':Int} {out:List Hunk48} {vo:Value} {W W':World}
theorem HuI.keep2 (h:HuI P w gs B d v n x dense sh olds m out vo W) (hk:Keeps2 (B+1) B W W') (hc:CtAt W' (B+1) B olds' m'):HuI P w gs B d v n x dense sh olds' m' out vo W':=by
 (have keep : ∀ {k:Nat} {o:Obj},W.heap[k]? = some o→k < B→W'.heap[k]? = some o:=fun {k o} hh hl=>(hk.2 k (Array.getElem?_eq_some_iff.1 hh).1 (by omega) (by omega)).trans hh);have h1:=h.lo;have h2:=h.hi;have h3:=h.top;have h4:=h.bel.size
 refine⟨⟨hk.3.1.trans h.bel.os,hk.3.2.1.trans h.bel.tape,hk.3.2.2.trans h.bel.output,Nat.le_trans h4 hk.1,fun k hl=>(hk.2 k (by omega) (by omega) (by omega)).trans (h.bel.block k hl)⟩,
  ⟨keep h.box.1 (by omega),keep h.box.2.1 (by omega),keep h.box.2.2 (by omega)⟩,h1,h2,by have:=hk.1;omega,keep h.shown (by omega),keep h.at8 h2,keep h.def_ h.dlt,h.dlt,hc,?_⟩
 exact Kd.N_step h.rows (fun k ho hlt=>hk.2 k hlt (by omega) (by omega))
theorem HuI.alloc (h:HuI P w gs B d v n x dense sh olds m out vo W) (hb:Below W.heap.size W W'):HuI P w gs B d v n x dense sh olds m out vo W' :=
  ⟨far_ h.bel hb,h.box.below hb,h.lo,h.hi,Nat.lt_of_lt_of_le h.top hb.size,farKeep h.shown hb,farKeep h.at8 hb,farKeep h.def_ hb,h.dlt,h.ct.below hb,Kd.N_below h.rows hb⟩
theorem HuI.lay {out':List Hunk48} {vo':Value} (h:HuI P w gs B d v n x dense sh olds m out vo W) (hN:Kd.N k48 48 W' (B+1+1) (fun k=>(P k∧k < w.heap.size)∨B+1+1≤k) vo' out') (hg:W.grownBy W' vo.ownBlock):HuI P w gs B d v n x dense sh olds m out' vo' W':=by
 have h1:=h.lo;have h2:=h.hi;have h3:=h.top;have h4:=h.bel.size;(have keep : ∀ {k:Nat} {o:Obj},W.heap[k]? = some o→k < B+1+1→W'.heap[k]? = some o:=fun {k o} hh hl=>(hg.block k (Array.getElem?_eq_some_iff.1 hh).1 (fun e=>by have:=Kd.N_base h.rows k e.symm;omega)).trans hh)
 exact⟨⟨hg.os.trans h.bel.os,hg.tape.trans h.bel.tape,hg.output.trans h.bel.output,Nat.le_trans h4 hg.size,fun k hl=>(hg.block k (by omega) (fun e=>by have:=Kd.N_base h.rows k e.symm;omega)).trans (h.bel.block k hl)⟩,
  ⟨keep h.box.1 (by omega),keep h.box.2.1 (by omega),keep h.box.2.2 (by omega)⟩,h1,h2,Nat.lt_of_lt_of_le h3 hg.size,keep h.shown (by omega),keep h.at8 (by omega),keep h.def_ (by have:=h.dlt;omega),h.dlt,⟨keep h.ct.1 (by omega),keep h.ct.2 (by omega)⟩,hN⟩
end
theorem HuI.fin {P:Nat→Prop} {w:World} {gs B d:Nat} {v:Value} {n:Nat} {x:Int} {dense:Bool} {sh:List Bool} {olds:List Int} {m:Int} {out:List Hunk48} {vo:Value} {W:World} (h:HuI P w gs B d v n x dense sh olds m out vo W) (hd:w.heap.size≤d) (o:Obj) :
    Kd.N k48 48 (W.putObj d o) w.heap.size (fun k=>P k∨w.heap.size≤k) vo out∧Below w.heap.size w (W.putObj d o):=by
 have h1:=h.lo;have h2:=h.hi;have h3:=h.dlt;refine⟨Kd.N_mono (Kd.N_lower (Kd.N_step h.rows (fun k ho hlt=>(grownBy_putObj' W d o).block k hlt (fun e=>by cases e;omega))) (by omega)) (fun k hk=>?_),h.bel.grown (grownBy_putObj' W d o) h.bel.size (fun k e=>by cases e;exact hd)⟩
 rcases hk with hk|hk
 (· exact .inl hk.1);(· exact .inr (by omega))
theorem HuI.fresh {P:Nat→Prop} {w:World} {gs B d:Nat} {v:Value} {n:Nat} {x:Int} {dense:Bool} {sh:List Bool} {olds:List Int} {m:Int} {out:List Hunk48} {vo:Value} {W W2:World} (h:HuI P w gs B d v n x dense sh olds m out vo W) (hb:Below w.heap.size w W2) {A:Option Addr} {hk:Hunk48} (hF:Kd.F k57 w P A hk.f2.length hk.f2) {v2:Value} (hr:Kd.R k45 45 W2 W.heap.size (fun _=>True) v2 hk.f0) {c:Nat} (hc:hk.f2.length≤c) :
    Kd.FK k48 W2 (fun k=>(P k∧k < w.heap.size)∨W.heap.size≤k) hk [v2, .int .i64 hk.f1.f0, .int .i64 hk.f1.f1, .slice A hk.f2.length c] ∧ ∀ k,((P k∧k < w.heap.size)∨W.heap.size≤k)→((P k∧k < w.heap.size)∨B+1+1≤k)∧some k≠vo.ownBlock:=by
 obtain⟨A2,c2,rfl⟩:=Kd.R_slice hr;have hr2:=Kd.R_bound hr;have h3:=h.top;refine⟨k48_mkF _ _ hk (Kd.R_reads' hr).2.1 (Kd.F_mono (Kd.R_F hr2) (fun k hk => .inr hk.2.1)) hc (Kd.F_mono (Kd.F_below (Kd.F_bound hF) hb) (fun k hk => .inl hk)),fun k hk=>?_⟩
 have hne:some k≠vo.ownBlock:=fun e=>by
  have h1:=Kd.N_base h.rows k e.symm;obtain⟨cs,hc⟩:=Kd.N_typed h.rows k e.symm;have h2:=(Array.getElem?_eq_some_iff.1 hc).1;have h4:=h.lo;have h5:=h.hi;omega
 refine⟨?_,hne⟩
 rcases hk with hk|hk
 (· exact .inl hk);(· exact .inr (by omega))
def cutsGo (rows:List Row57) (sh:List Bool) (r i:Nat):List Hunk48:=(HkP.groupsGo id sh r i).map (fun p=>hunkOf rows p.1 p.2)
theorem cutsGo_end (rows:List Row57) {sh:List Bool} {i:Nat} (h : ¬ i < sh.length) : ∀ r,cutsGo rows sh r i=[]
 | 0=>rfl
 | r+1=>by rw[cutsGo,HkP.groupsGo,dif_neg h];rfl
theorem cutsGo_hit (rows:List Row57) {sh:List Bool} {r i:Nat} (h:i < sh.length) (hm:sh[i]=true):cutsGo rows sh (r+1) i=hunkOf rows i (HkP.groupEnd id sh i) :: cutsGo rows sh r (HkP.groupEnd id sh i):=by
 (rw[cutsGo,HkP.groupsGo,dif_pos h,if_pos (show id sh[i]=true from hm)];rfl)
theorem cutsGo_miss (rows:List Row57) {sh:List Bool} {r i:Nat} (h:i < sh.length) (hm:sh[i]=false):cutsGo rows sh (r+1) i=cutsGo rows sh r (i+1):=by
 (rw[cutsGo,HkP.groupsGo,dif_pos h,if_neg (by rw[id,hm];decide)];rfl)
theorem cutsGo_len (rows:List Row57) (sh:List Bool) : ∀ r i,(cutsGo rows sh r i).length≤r
 | 0,_=>Nat.zero_le _
 | r+1,i=>by
  by_cases h:i < sh.length
  ·
   cases hm:sh[i] with
   | true=>rw[cutsGo_hit rows h hm];have:=cutsGo_len rows sh r (HkP.groupEnd id sh i);rw[List.length_cons];omega
   | false=>rw[cutsGo_miss rows h hm];have:=cutsGo_len rows sh r (i+1);omega
  (· (rw[cutsGo_end rows h];exact Nat.zero_le _))
theorem rep_low (n:Nat) : ∀ m ∈ List.replicate n (0:Int),0≤m∧m≤0:=fun m hm=>by rw[List.eq_of_mem_replicate hm];exact⟨Int.le_refl _,Int.le_refl _⟩
abbrev ctR (rows:List Row57) (i:Nat):List Int:=passR (rows.take i) (List.replicate (rd_T57 rows 0).f0.size 0)
abbrev ctN (rows:List Row57) (i:Nat):Int:=passN (rows.take i) 0
theorem ctR_low (rows:List Row57) (i:Nat) : ∀ m ∈ ctR rows i,0≤m∧m≤rows.length:=fun m hm=>by
  have:=passR_low (rows.take i) _ 0 (rep_low _) m hm
  rw[List.length_take] at this
  omega
theorem ctN_low (rows:List Row57) (i:Nat):0≤ctN rows i∧ctN rows i≤rows.length:=by
 have:=passN_low (rows.take i) 0 0 (by omega);(rw[List.length_take] at this);show 0≤passN (rows.take i) 0∧passN (rows.take i) 0≤_;omega
theorem ctR_len (rows:List Row57) (i:Nat):(ctR rows i).length=(rd_T57 rows 0).f0.size:=by rw[passR_len,List.length_replicate]
theorem ctR_cut {rows:List Row57} {f t:Nat} (h:f≤t):passR (cutR rows f t) (ctR rows f)=ctR rows t:=by
 have e:rows.take t=rows.take f ++ cutR rows f t:=by
  have:=(List.take_append_drop f (rows.take t)).symm
  rwa [List.take_take,Nat.min_eq_left h] at this
 rw[ctR,ctR,passR,passR,passR,e,List.foldl_append]
theorem ctN_cut {rows:List Row57} {f t:Nat} (h:f≤t):passN (cutR rows f t) (ctN rows f)=ctN rows t:=by
 have e:rows.take t=rows.take f ++ cutR rows f t:=by
  have:=(List.take_append_drop f (rows.take t)).symm
  rwa [List.take_take,Nat.min_eq_left h] at this
 rw[ctN,ctN,passN,passN,passN,e,List.foldl_append]
def shownC (rows:List RowH) (x:Nat) (dense:Bool):List Bool:=(List.range rows.length).map (HkP.shownR mrkB (keepB rows dense) rows x)
theorem shownC_len (rows:List RowH) (x:Nat) (dense:Bool):(shownC rows x dense).length=rows.length:=by simp[shownC]
theorem shownC_at {rows:List RowH} {x i:Nat} {dense:Bool} (hi:i < rows.length):(shownC rows x dense).getD i false=HkP.shownR mrkB (keepB rows dense) rows x i:=by
 (rw[shownC,List.getD_eq_getElem?_getD,List.getElem?_map,List.getElem?_range hi];rfl)
theorem groupEnd_mrk (rows:List RowH) (i:Nat):groupEnd rows i=HkP.groupEnd mrkB rows i:=by
 have e:(markB:RowH→Bool)=mrkB:=funext markB_eq;rw[groupEnd,HkP.groupEnd,e]
theorem groupsGo_mrk (rows:List RowH) : ∀ r i,groupsGo rows r i=(HkP.groupsGo mrkB rows r i).map spanN
 | 0,_=>rfl
 | r+1,i=>by
  rw[groupsGo,HkP.groupsGo]
  by_cases h:i < rows.length
  ·
   rw[dif_pos h,dif_pos h]
   by_cases hm:mrkB rows[i]=true
   (· (rw[if_pos (by rw[markB_eq];exact hm),if_pos hm,List.map_cons,groupEnd_mrk,groupsGo_mrk rows r];rfl));(· rw[if_neg (by rw[markB_eq];exact hm),if_neg hm,groupsGo_mrk rows r])
  (· (rw[dif_neg h,dif_neg h];rfl))
theorem showFold_at (rows:List RowH) (x:Nat) (dense:Bool) : ∀ (G:List (Nat × Nat)) (s:List Bool) (i:Nat),i < s.length→(((G.map spanN).foldl (showStep rows x dense) s).getD i false=true↔(s.getD i false=true ∨ ∃ g ∈ G,keepB rows dense g.1 g.2=true∧HkP.Inside mrkB rows x g.1 g.2 i))
 | [],s,i,_=>by simp
 | g :: G,s,i,hi=>by
  rw[List.map_cons,List.foldl_cons,showFold_at rows x dense G _ i (by rw[showStep_len];exact hi)]
  have e:(showStep rows x dense s (spanN g)).getD i false=true↔(s.getD i false=true∨(keepB rows dense g.1 g.2=true∧HkP.Inside mrkB rows x g.1 g.2 i)):=by
   rw[showStep];rw[show (spanN g).f0.toNat=g.1 from Int.toNat_natCast _,show (spanN g).f1.toNat=g.2 from Int.toNat_natCast _];split;(· rename_i hk;rw[showF_at hi];simp[hk]);(· rename_i hk;simp[hk])
  rw[e];constructor
  ·
   rintro((h|h)|⟨g2,h2,h3⟩);(· exact .inl h);(· exact .inr ⟨g,List.mem_cons_self,h⟩);(· exact .inr ⟨g2,List.mem_cons_of_mem _ h2,h3⟩)
  ·
   rintro(h|⟨g2,h2,h3⟩);(· exact .inl (.inl h))
   ·
    rcases List.mem_cons.1 h2 with rfl|h2
    (· exact .inl (.inr h3));(· exact .inr ⟨g2,h2,h3⟩)
theorem shown_eq (rows:List RowH) (x:Nat) (dense:Bool):shownP rows x dense=shownC rows x dense:=by
 apply List.ext_getElem (by rw[shownP_len,shownC_len]);intro i h1 h2;(have hi:i < rows.length:=by rw[shownP_len] at h1;exact h1);have a:=showFold_at rows x dense (HkP.groupsGo mrkB rows (rows.length+1) 0) (List.replicate rows.length false) i (by rw[List.length_replicate];exact hi);(rw[← groupsGo_mrk] at a);have b:=HkP.shownR_iff mrkB (keepB rows dense) (x:=x) hi;have c:=shownC_at (x:=x) (dense:=dense) hi;(rw[List.getD_eq_getElem?_getD,List.getElem?_eq_getElem h2,Option.getD_some] at c);have a':(shownP rows x dense).getD i false=true↔_:=a;(rw[List.getD_eq_getElem?_getD,List.getElem?_eq_getElem h1,Option.getD_some] at a');rw[Bool.eq_iff_iff,a',c,b];constructor
 ·
  rintro(h|⟨g,hg,hk,hi⟩);(· (simp[hi] at h));(· exact⟨g.1,g.2,((HkP.mem_groupsGo mrkB _ 0 (by omega) (fun j hj=>by omega)).1 hg).2,hk,hi⟩)
 (· rintro⟨f,t,hg,hk,hin⟩;exact .inr ⟨(f,t),(HkP.mem_groupsGo mrkB _ 0 (by omega) (fun j hj=>by omega)).2 ⟨Nat.zero_le _,hg⟩,hk,hin⟩)
attribute [local go_sem] Oper.semAt_some
theorem hunk_Hunks (P:Nat→Prop) (A:Option Addr) (c:Nat) (rows:List Row57) (x:Int) (dense mb:Bool) (kM:Nat) (w:World) (hm:MaxAt w) (hF:Kd.F k57 w P A rows.length rows) (hc:rows.length≤c) (hl:rows.length≤1000000) (hz:Low rows) (hM:hunk_May.f kM rows=some mb) :
    Calls Tryd.prog 28 #[.slice A rows.length c, .int .i64 x, .bool dense] w fun e w' => ∃ v,e = .returned (.tuple #[v, .int .i64 (hunksP rows x dense mb).2])∧Kd.N k48 48 w' w.heap.size (fun k=>P k∨w.heap.size≤k) v (hunksP rows x dense mb).1∧Below w.heap.size w w':=by
 obtain⟨R,hR⟩ : ∃ R,hunksP rows x dense mb=R:=⟨_,rfl⟩;have HR:=Aside0.mk hR;rw[hR];have HM:=Aside0.mk hm;have HF:=Aside0.mk hF;have HZ:=Aside0.mk hz;have HMay:=Aside0.mk hM;clear hm hF hz hM hR;refine(callsIn_wide (n:=3)).1 ?_;refine callsIn_of_wp_marks Tryd.func28 rfl trivial ?_ rfl;simp only[Tryd.ntmps28,List.size_toArray,List.length_cons,List.length_nil,Nat.reduceAdd,Nat.reduceSub,Array.replicate_succ,Array.replicate_zero,List.push_toArray,List.append_toArray,List.nil_append,List.cons_append];refine wpIn_wide.2 ?_;have hst:=BoxH.start w (.slice A rows.length c) x dense;obtain⟨w3,hw3⟩ : ∃ w3,((w.alloc (.cells #[.slice A rows.length c] 36)).alloc (.cells #[.int .i64 x] 3)).alloc (.cells #[.bool dense] 4)=w3:=⟨_,rfl⟩;(rw[hw3] at hst);obtain⟨hb3,hbl3,hs3⟩:=hst;have yr:w3.cell? ⟨w.heap.size,0,none⟩=some (.slice A rows.length c):=cell_blk hb3.1 rfl;have yx:w3.cell? ⟨w.heap.size+1,0,none⟩=some (.int .i64 x):=cell_blk hb3.2.1 rfl;have HBX:=Aside0.mk hb3;have HBL:=Aside0.mk hbl3;have HS3:=Aside0.mk hs3;clear hb3 hbl3 hs3
 by_cases hx0:x < 0
 (· have d1:decide (x < 0)=true:=decide_eq_true hx0;(have e:hunksP rows x dense mb=([],1):=by rw[hunksP,if_pos (.inl hx0)]);have HR2:Aside0 (R=([],1)):=⟨by rw[← HR.out,e]⟩;clear e;(go_wp2_with fail);rw[HR2.out];exact⟨_,results_tmp2 rfl _ _ _, .slice none 0 0,rfl,Kd.N_nil _ _ _ _ _,HBL.out⟩)
 ·
  have d1:decide (x < 0)=false:=decide_eq_false hx0
  by_cases hx1:1000 < x
  (· have d2:decide (1000 < x)=true:=decide_eq_true hx1;have d3:decide (x > 1000)=true:=decide_eq_true hx1;(have e:hunksP rows x dense mb=([],1):=by rw[hunksP,if_pos (.inr hx1)]);have HR2:Aside0 (R=([],1)):=⟨by rw[← HR.out,e]⟩;clear e;(go_wp2_with fail);rw[HR2.out];exact⟨_,results_tmp2 rfl _ _ _, .slice none 0 0,rfl,Kd.N_nil _ _ _ _ _,HBL.out⟩)
  ·
   have d2:decide (1000 < x)=false:=decide_eq_false hx1;have d3:decide (x > 1000)=false:=decide_eq_false hx1;(have e:hunksP rows x dense mb=if mb=false then ([],2) else (cutsH rows (shownP rows x.toNat dense),0):=by rw[hunksP,if_neg (by omega)]);have HR2:Aside0 (R=if mb=false then ([],2) else (cutsH rows (shownP rows x.toNat dense),0)):=⟨by rw[← HR.out,e]⟩;clear e;(go_wp2_with fail);refine(hunk_May.calls kM A c rows mb w3 (Kd.C_below (Kd.F_now HF.out) HBL.out) hc HMay.out).mono ?_;rintro e w4 ⟨rfl,hb4⟩;have HBX4:Aside0 (BoxH w (.slice A rows.length c) x dense w4):=⟨HBX.out.below hb4⟩;have HBL4:Aside0 (Below w.heap.size w w4):=⟨far_ HBL.out hb4⟩;have HS4:Aside0 (w.heap.size+1+1 < w4.heap.size):=⟨by have:=hb4.size;have:=HS3.out;omega⟩;clear hb4 yr yx hw3;have yr:w4.cell? ⟨w.heap.size,0,none⟩=some (.slice A rows.length c):=cell_blk HBX4.out.1 rfl
   cases mb with
   | false =>
    (rw[if_pos rfl] at HR2);(go_wp2_with fail);rw[HR2.out];exact⟨_,results_tmp2 rfl _ _ _, .slice none 0 0,rfl,Kd.N_nil _ _ _ _ _,HBL4.out⟩
   | true =>
    (rw[if_neg (by decide)] at HR2)
    by_cases hn:rows=[]
    (· subst hn;(go_wp2_with fail);rw[HR2.out,cutsH_nil [] (shownP_len _ _ _)];exact⟨_,results_tmp2 rfl _ _ _, .slice none 0 0,rfl,Kd.N_nil _ _ _ _ _,HBL4.out⟩)
    ·
     have hpos:0 < rows.length:=List.length_pos_iff.2 hn;(have e1:((rows.length:Int) == 0)=false:=by simp;omega);(have e2:(rows.length == 0)=false:=by simp;omega);have hmk:=make_bools rows.length hl;obtain⟨w6,hw6⟩ : ∃ w6,(w4.alloc (.cells (Array.replicate rows.length (.bool false)) 4)).alloc (.cells #[.slice (some ⟨w4.heap.size,0,none⟩) rows.length rows.length] 83)=w6:=⟨_,rfl⟩;(have hx0:w6.heap[w4.heap.size]? = some (.cells (Array.replicate rows.length (.bool false)) 4 (0,0)):=by rw[← hw6];exact newKeep (blk_new _ _) _)
     have hx1:w6.heap[w4.heap.size+1]? = some (.cells #[.slice (some ⟨w4.heap.size,0,none⟩) rows.length rows.length] 83 (0,0)):=by
      rw[← hw6];have:=blk_new (w4.alloc (.cells (Array.replicate rows.length (.bool false)) 4)) (.cells #[.slice (some ⟨w4.heap.size,0,none⟩) rows.length rows.length] 83)
      rwa [World.size_alloc] at this
     (have hb6:Below w4.heap.size w4 w6:=by rw[← hw6];exact(newBelow w4 _).trans ((newBelow _ _).mono (by simp)));(have hs6:w6.heap.size=w4.heap.size+1+1:=by rw[← hw6];simp);have hcl:=clear_bools hpos hx0;have y8:w6.cell? ⟨w4.heap.size+1,0,none⟩=some (.slice (some ⟨w4.heap.size,0,none⟩) rows.length rows.length):=cell_blk hx1 rfl;have yr6:w6.cell? ⟨w.heap.size,0,none⟩=some (.slice A rows.length c):=cell_blk (HBX4.out.below hb6).1 rfl
     have HSH:Aside0 (ShI w w4.heap.size (.slice A rows.length c) rows.length x dense (List.replicate rows.length false) (w6.alloc (.cells #[.slice A rows.length c] 36))):=by
      refine⟨far_ (far_ HBL4.out hb6) (newBelow _ _),(HBX4.out.below hb6).below (newBelow _ _),HS4.out,List.length_replicate,?_,newKeep hx1 _,?_⟩;(· (rw[List.map_replicate,List.toArray_replicate];exact newKeep hx0 _))
      ·
       have:=blk_new w6 (.cells #[.slice A rows.length c] 36)
       rwa [hs6] at this
     have HS6:=Aside0.mk hs6;clear hx0 hx1 hb6 hs6;(go_wp2_with (first|(simp only[hcl])|fail));refine(hunk_groups A rows.length c w6).mono ?_;rintro e w7 ⟨rfl,rfl⟩;(go_wp2_with fail);obtain⟨xn,rfl⟩ : ∃ xn:Nat,x=(xn:Int):=⟨x.toNat,by omega⟩;(rw[Int.toNat_natCast] at HR2);clear hcl y8 yr6 yr hw6 hmk;refine(wpIn_wide (n:=3)).1 ?_
     refine wpIn_range_box rfl (by omega) (gf:=83) (lb:=#[.pointer (some ⟨w6.heap.size,0,none⟩)]) rfl trivial (enters_of Tryd.func83 (by kernel_rfl) rfl) (fun _=>rfl)
      (groups_goes _ w6.heap.size A c rows hl HZ.out (ShI w w4.heap.size (.slice A rows.length c) rows.length xn dense) (fun _ g => ∃ f t:Nat,g=⟨(f:Int),(t:Int)⟩∧f≤t∧t≤rows.length) (showStep rows xn dense) (List.replicate rows.length false)
       (fun s W h=>⟨cell_blk (by rw[HS6.out];exact h.2.2.2.2.2.2) rfl,Kd.C_below (Kd.F_now HF.out) h.1⟩) (fun s W W' h hb=>h.below hb) (fun told g rest e=>groupsGo_ok rows _ _ g (by rw[← e];simp))) 9 (fun g b W=>W.heap[b]? = some (.cells #[.int .i64 g.f0, .int .i64 g.f1] 45 (0,0)))
      (fun s W r o o' hI hr hl ho=>hI.put o' (by have:=HS6.out;have:=HS4.out;simp at hr;omega) hl ho) (fun g b W r o o' hH hl ho=>putKeep hH hl ho) (fun s W o hI=>hI.below (newBelow W o)) HSH.out ?assign ?body ?done
     case assign =>
      intro l s g W K hI _ hK;have hk:=hK W.heap.size _ (hI.below (newBelow _ _)) (KeepsOthers.alloc _ _) (blk_new W (.cells #[.int .i64 g.f0, .int .i64 g.f1] 45));clear hK hI HSH;gi_wp2;simpa using hk
     case body =>
      rintro l s _ b W hI ⟨f,t,rfl,hft,htl⟩ hH;have HI:=Aside0.mk hI;obtain⟨hbw,hbx,_,hsl,hsh,ht8,_⟩:=hI;have h1:W.cell? ⟨b,0,none⟩=some (.int .i64 f):=cell_blk hH rfl;have h2:W.cell? ⟨b,1,none⟩=some (.int .i64 t):=cell_blk hH rfl;have yr:W.cell? ⟨w.heap.size,0,none⟩=some (.slice A rows.length c):=cell_blk hbx.1 rfl;have yx:W.cell? ⟨w.heap.size+1,0,none⟩=some (.int .i64 xn):=cell_blk hbx.2.1 rfl;have yd:W.cell? ⟨w.heap.size+1+1,0,none⟩=some (.bool dense):=cell_blk hbx.2.2 rfl;have y8:W.cell? ⟨w4.heap.size+1,0,none⟩=some (.slice (some ⟨w4.heap.size,0,none⟩) rows.length rows.length):=cell_blk ht8 rfl;clear hbw hbx hsl hsh ht8 HSH
      have shw : ∀ (W2:World),Below W.heap.size W W2→keepB rows dense f t=true→Calls Tryd.prog 54 #[.slice (some ⟨w4.heap.size,0,none⟩) rows.length rows.length, .slice A rows.length c, .agg #[.int .i64 (f:Int), .int .i64 (t:Int)], .int .i64 (xn:Int)] W2 fun e W'=>e = .returned (.tuple #[])∧Aside0 (KeepsOthers W W'∧ShI w w4.heap.size (.slice A rows.length c) rows.length xn dense (showStep rows xn dense s ⟨(f:Int),(t:Int)⟩) W'):=fun W2 hb2 hkp=>by
       have HI2:=HI.out.below hb2;have hbw2:=HI2.1;obtain⟨K,hK⟩:=show_gives HZ.out hl xn f t (by omega) htl hft s HI2.2.2.2.1
       have hr0:Kd.R Kd.bool 4 W2 w.heap.size (fun k=>k=w4.heap.size) (.slice (some ⟨w4.heap.size,0,none⟩) rows.length rows.length) s:=Kd.R_of_own (by
        rw[HI2.2.2.2.1]
        exact raw_own HI2.2.2.2.2.1 (by rw[show encs Value.bool s=s.map Value.bool from rfl,List.length_map];exact HI2.2.2.2.1) (by have:=HS4.out;omega) hl) (fun k hk=>by simp[Value.ownBlock] at hk;exact hk.symm)
       (have hrows : ∀ W_,Kept W2 W_ (fun k_=>k_=w4.heap.size)→Kd.C k57 W_ A rows.length rows:=fun W_ hkw=>k57_heap.C (fun k hlt=>(hkw.2 k (by have:=hbw2.size;omega) (by have:=HS4.out;omega)).trans (hbw2.block k hlt)) (Kd.F_now HF.out));refine(hunk_show.calls K (fun k=>k=w4.heap.size) _ s A c rows f t xn (showF rows xn f t s) w W2 hbw2 hr0 hrows hc (hK K (Nat.le_refl _))).mono ?_;rintro e W3 ⟨rfl,hr3,hb3,hk3⟩
       have hstep:showStep rows xn dense s ⟨(f:Int),(t:Int)⟩=showF rows xn f t s:=by
        rw[showStep,if_pos (by rw[Int.toNat_natCast,Int.toNat_natCast];exact hkp),Int.toNat_natCast,Int.toNat_natCast]
       have:=HI2.shown hk3 hb3 hr3 (by rw[showF_len];exact HI2.2.2.2.1);rw[hstep];exact⟨rfl,⟨(KeepsOthers.of_below hb2).trans this.2,this.1⟩⟩
      have SHW:=Aside0.mk shw;clear shw
      cases dense with
      | false =>
       (gi_wp2_with fail);refine⟨trivial,?_⟩;(gi_wp2_with fail);refine⟨trivial,CallsIn.inRound l (callsIn_wide.2 ((SHW.out W (Below.refl _ _) rfl).mono ?_))⟩;rintro e W3 ⟨rfl,h3⟩;(gi_wp2_with fail);exact h3.out
      | true =>
       have hsl:=slice_rows2 A rows.length c f t hft htl hc;(gi_wp2_with fail);have hcu:=C_cut2 (Kd.C_below (Kd.F_now HF.out) HI.out.1) hft htl hc;have hdu:=hunk_Dull (cutAt A c f) (c - f) (cutR rows f t) W (HM.out.below HI.out.1 HM.out.1) hcu (by rw[cutR_len htl];omega) (by rw[cutR_len htl];omega) (fun x hx=>HZ.out x (cutR_mem hx));(rw[cutR_len htl] at hdu);refine⟨trivial,CallsIn.inRound l (callsIn_wide.2 (hdu.mono ?_))⟩;rintro e W2 ⟨rfl,hb2⟩;have HB2:Aside0 (Below W.heap.size W W2):=hb2;clear hcu hdu hb2;obtain⟨q,hq⟩ : ∃ q,dullB (cutR rows f t)=q:=⟨_,rfl⟩;(have hkp:keepB rows true f t = !q:=by rw[keepB,hq];rfl);rw[hq];clear hq
       cases q with
       | true =>
        (gi_wp2_with fail)
        have hstep:showStep rows xn true s ⟨(f:Int),(t:Int)⟩=s:=by
         rw[showStep,if_neg (by rw[Int.toNat_natCast,Int.toNat_natCast,hkp];decide)]
        rw[hstep];exact⟨KeepsOthers.of_below HB2.out,HI.out.below HB2.out⟩
       | false =>
        obtain⟨_,hbx,_,_,_,ht8,_⟩:=HI.out.below HB2.out;have hH2:=farKeep hH HB2.out;have h1:W2.cell? ⟨b,0,none⟩=some (.int .i64 f):=cell_blk hH2 rfl;have h2:W2.cell? ⟨b,1,none⟩=some (.int .i64 t):=cell_blk hH2 rfl;have yr:W2.cell? ⟨w.heap.size,0,none⟩=some (.slice A rows.length c):=cell_blk hbx.1 rfl;have yx:W2.cell? ⟨w.heap.size+1,0,none⟩=some (.int .i64 xn):=cell_blk hbx.2.1 rfl;have y8:W2.cell? ⟨w4.heap.size+1,0,none⟩=some (.slice (some ⟨w4.heap.size,0,none⟩) rows.length rows.length):=cell_blk ht8 rfl;clear hbx ht8 hH2;(gi_wp2_with fail);refine⟨trivial,CallsIn.inRound l (callsIn_wide.2 ((SHW.out W2 HB2.out hkp).mono ?_))⟩;rintro e W3 ⟨rfl,h3⟩;(gi_wp2_with fail);exact h3.out
     case done =>
      rintro s W hS hI hK;have hsh:s=shownP rows xn dense:=hS;subst hsh;obtain⟨sh,hshe⟩ : ∃ sh,shownP rows xn dense=sh:=⟨_,rfl⟩;(rw[hshe] at hI HR2);obtain⟨hbw,hbx,hlo,hsl,hsh,ht8,_⟩:=hI
      have hz0:(rd_T57 rows 0).f0.size≤1000000:=by
       (rw[show (0:Int)=((0:Nat):Int) from rfl,rdH hpos];exact HZ.out _ (List.getElem_mem hpos))
      obtain⟨ad,rfl,z0,z1⟩:=at_T57 (Kd.C_below (Kd.F_now HF.out) hbw) 0 (by omega) (by omega);obtain⟨m0,hm0⟩ : ∃ m0,(rd_T57 rows 0).f0=m0:=⟨_,rfl⟩;(rw[hm0] at z0 hz0);(rw[show (0:Int).toNat * 2=0 from rfl,show ad.add 0=ad by simp[Addr.add]] at z0);have hmk:=make_ints m0.size hz0;have yr:W.cell? ⟨w.heap.size,0,none⟩=some (.slice (some ad) rows.length c):=cell_blk hbx.1 rfl;(have hlt0:((0:Int) < (rows.length:Int)):=by omega);(have hD:w6.heap.size+1=(w6.alloc (.cells #[.slice (some ad) rows.length c] 36)).heap.size:=by simp);(rw[← hD] at hK ⊢);clear hD;obtain⟨w8,hw8⟩ : ∃ w8,(W.alloc (.cells (Array.replicate m0.size (.int .i64 0)) 3)).alloc (.cells #[.slice (some ⟨W.heap.size,0,none⟩) m0.size m0.size, .int .i64 0] 90)=w8:=⟨_,rfl⟩;(have hb8:Below W.heap.size W w8:=by rw[← hw8];exact(newBelow W _).trans ((newBelow _ _).mono (by simp)));(have hs8:w8.heap.size=W.heap.size+1+1:=by rw[← hw8];simp);(have hc0:w8.heap[W.heap.size]? = some (.cells (Array.replicate m0.size (.int .i64 0)) 3 (0,0)):=by rw[← hw8];exact newKeep (blk_new _ _) _)
      have hc1:w8.heap[W.heap.size+1]? = some (.cells #[.slice (some ⟨W.heap.size,0,none⟩) m0.size m0.size, .int .i64 0] 90 (0,0)):=by
       rw[← hw8];have:=blk_new (W.alloc (.cells (Array.replicate m0.size (.int .i64 0)) 3)) (.cells #[.slice (some ⟨W.heap.size,0,none⟩) m0.size m0.size, .int .i64 0] 90)
       rwa [World.size_alloc] at this
      have hle:w4.heap.size+1 < W.heap.size:=(Array.getElem?_eq_some_iff.1 ht8).1;have hKl:=(Array.getElem?_eq_some_iff.1 hK).1
      have HI0:Aside0 (HuI P w w4.heap.size W.heap.size (w6.heap.size+1) (.slice (some ad) rows.length c) rows.length xn dense sh (ctR rows 0) (ctN rows 0) [] (.slice none 0 0) w8):=⟨{
       bel:=far_ hbw hb8,box:=hbx.below hb8,lo:=hlo,hi:=hle,top:=by omega,shown:=farKeep hsh hb8,at8:=farKeep ht8 hb8,def_:=farKeep hK hb8,dlt:=hKl
       ct:=by
        refine⟨?_,?_⟩;(· (have e:(ctR rows 0).length=m0.size:=by rw[ctR_len,hm0]);(rw[e];exact hc1));(· (have e:ctR rows 0=List.replicate m0.size 0:=by show passR (rows.take 0) _=_;rw[List.take_zero,hm0];rfl);(rw[e,List.map_replicate,List.toArray_replicate];exact hc0))
       rows:=Kd.N_nil _ _ _ _ _ }⟩
      have HSL:Aside0 (sh.length=rows.length):=⟨hsl⟩;clear hb8 hs8 hc0 hc1 hle hKl hbw hbx hlo hsh ht8 hK;obtain⟨H,hH⟩ : ∃ H,cutsH rows sh=H:=⟨_,rfl⟩;have HH:Aside0 (cutsGo rows sh (rows.length+1) 0=H):=⟨by rw[← hH,cutsH,hsl];rfl⟩;have hHl:=cutsGo_len rows sh (rows.length+1) 0;(rw[HH.out] at hHl);(rw[hH] at HR2);clear hH hsl;simp only[Exit.inBlock,Exit.then];(go_wp2_with fail);clear hw8 z0 z1 hmk yr
      go_loopw [11,12] (fun v11 v12 wr => ∃ (i r:Nat) (out:List Hunk48) (Ao:Option Addr) (co:Nat),v11 = .slice Ao out.length co∧v12 = .int .i64 i∧i≤rows.length∧rows.length < r+i∧Aside0 (out ++ cutsGo rows sh r i=H)∧Aside0 (HuI P w w4.heap.size W.heap.size (w6.heap.size+1) (.slice (some ad) rows.length c) rows.length xn dense sh (ctR rows i) (ctN rows i) out (.slice Ao out.length co) wr)) (fun _ v _=>rows.length - (intOf v).toNat)
      (case atStart=>exact⟨0,rows.length+1,[],none,0,rfl,rfl,Nat.zero_le _,by omega,HH,HI0⟩)
      case round =>
       obtain⟨i,r,out,Ao,co,rfl,rfl,hi,hr,HT,HI⟩:=hrel;have yr:wr.cell? ⟨w.heap.size,0,none⟩=some (.slice (some ad) rows.length c):=cell_blk HI.out.box.1 rfl;have y8:wr.cell? ⟨w4.heap.size+1,0,none⟩=some (.slice (some ⟨w4.heap.size,0,none⟩) rows.length rows.length):=cell_blk HI.out.at8 rfl
       by_cases hlt:i < rows.length
       ·
        obtain⟨r,rfl⟩ : ∃ q,r=q+1:=⟨r - 1,by omega⟩;obtain⟨T,hT⟩ : ∃ T,HkP.groupEnd id sh i=T:=⟨_,rfl⟩;have hge:=HkP.groupEnd_spec id sh i (by rw[HSL.out];exact hi);(rw[hT,HSL.out] at hge);have HGE:=Aside0.mk hge;have HTE:=Aside0.mk hT;obtain⟨hiT,hTn,_,_⟩:=hge;clear hT;(go_wp2_with fail)
        go_loop [13] (fun v => ∃ (j:Nat),v = .int .i64 j∧i≤j∧j≤T) (fun v=>rows.length - (intOf v).toNat)
        (case atStart=>exact⟨i,rfl,Nat.le_refl _,hiT⟩)
        case round =>
         obtain⟨j,rfl,hij,hjT⟩:=hrel
         by_cases hj:j < T
         ·
          obtain⟨hjl,hjm⟩:=HGE.out.2.2.1 j hij hj
          have zj:wr.cell? ⟨w4.heap.size,j,none⟩=some (.bool true):=cell_blk HI.out.shown (by
           rw[List.getElem?_toArray,List.getElem?_map,List.getElem?_eq_getElem hjl,show sh[j]=true from hjm];rfl)
          (have hjn:j < rows.length:=by omega);clear hjm hjl;(go_wp2_with fail);go_round;(case measure=>simp[intOf];omega);(case rel=>exact⟨j+1,by go_num,by omega,by omega⟩)
         ·
          (obtain rfl:j=T:=by omega)
          have hstop:(j < rows.length∧wr.cell? ⟨w4.heap.size,j,none⟩=some (.bool false)∧decide ((j:Int) < (rows.length:Int))=true)∨(¬ j < rows.length∧wr.heap.size=wr.heap.size∧decide ((j:Int) < (rows.length:Int))=false):=by
           by_cases hjn:j < rows.length
           ·
            left;(have hjl:j < sh.length:=by rw[HSL.out];exact hjn)
            have hjm:sh[j]=false:=by
             cases e:sh[j] with
             | false=>rfl
             | true=>exact(HGE.out.2.2.2 ⟨hjl,e⟩).elim
            exact⟨hjn,cell_blk HI.out.shown (by rw[List.getElem?_toArray,List.getElem?_map,List.getElem?_eq_getElem hjl,hjm];rfl),decide_eq_true (by omega)⟩
           (· exact .inr ⟨hjn,rfl,decide_eq_false (by omega)⟩)
          by_cases hTi:i < j
          ·
           have d4:decide ((i:Int) < (j:Int))=true:=decide_eq_true (by omega);have d5:decide ((j:Int) > (i:Int))=true:=decide_eq_true (by omega);have hsl3:=slice_rows3 (some ad) rows.length c i j hiT hTn hc;(have hil:i < sh.length:=by rw[HSL.out];exact hlt);have him:sh[i]=true:=(HGE.out.2.2.1 i (Nat.le_refl _) hTi).2;have HTT:Aside0 ((out ++ [hunkOf rows i j]) ++ cutsGo rows sh r j=H):=⟨by have:=HT.out;rw[cutsGo_hit rows hil him,HTE.out] at this;rw[List.append_assoc];exact this⟩
           have hol:out.length≤rows.length+1:=by
            have:=congrArg List.length HTT.out;(rw[List.length_append,List.length_append,List.length_singleton] at this);omega
           clear hil him
           rcases hstop with ⟨p1,p2,p3⟩|⟨p1,p2,p3⟩
           all_goals
            (go_wp2_with fail);have hcu:=F_cut3 (Kd.F_below HF.out HI.out.bel) hiT hTn;have hcl:=cutR_len (f:=i) hTn;have hch:=counter_hunk (W.heap.size+1) W.heap.size (ctR rows i) (ctN rows i) (cutAt (some ad) j i) (j - i) (cutR rows i j) wr HI.out.ct (Kd.F_now hcu) (by omega) (by omega) (fun x hx=>HZ.out x (cutR_mem hx)) (by rw[ctR_len,hm0];omega) (fun m hm=>by have:=ctR_low rows i m hm;omega) (by have:=ctN_low rows i;omega);(rw[ctR_cut hiT,ctN_cut hiT,hcl] at hch);refine hch.mono ?_;rintro e W2 ⟨v2,rfl,HC2,HR3,HK2⟩;have HI2:Aside0 (HuI P w w4.heap.size W.heap.size (w6.heap.size+1) (.slice (some ad) rows.length c) rows.length xn dense sh (ctR rows j) (ctN rows j) out (.slice Ao out.length co) W2):=⟨HI.out.keep2 HK2.out HC2.out⟩;have hfr:=HI.out.fresh (hk:=hunkOf rows i j) HI2.out.bel (F_cut3 HF.out hiT hTn) HR3.out (c:=j - i) (by show (cutR rows i j).length≤_;omega);(rw[show (hunkOf rows i j).f2.length=j - i from hcl] at hfr);have HFR:=Aside0.mk hfr;clear hch hcu hcl hfr HR3 HC2 HK2
            go_wp2_with (first
             | (at_builtin;refine Kd.N_append k48 (w0:=W2) (W:=W2) (W.heap.size+1+1) rfl (.tmp 81) (.tmp 89) 22 48 (.agg #[.slice none 0 0, .int .i64 0, .int .i64 0, .slice none 0 0]) 64 rfl Tryd.underlying22 info48 rfl (by decide) (by decide) (.slice Ao out.length co) out (hunkOf rows i j) _ _ _ rfl rfl HFR.out.1 HFR.out.2 (fun k hk => .inr (by have:=HI2.out.top;omega)) HI2.out.rows (Below.refl _ _) (by have:=HI2.out.top;omega) (by omega) ?_;intro v1 w1 hN1 hb1 hg1 hat1;obtain⟨A9,c9,hv9⟩:=Kd.N_slice hN1;subst hv9;have HI9:=Aside0.mk (HI2.out.lay hN1 hg1);clear hN1 hb1 hg1 hat1)
             | fail)
            exact⟨⟨j,r,out ++ [hunkOf rows i j],A9,c9,by rw[List.length_append,List.length_singleton],rfl,hTn,by omega,HTT,HI9⟩,by simp[intOf];omega⟩
          ·
           have d4:decide ((i:Int) < (j:Int))=false:=decide_eq_false (by omega);have d5:decide ((j:Int) > (i:Int))=false:=decide_eq_false (by omega);(have hji:j=i:=by omega);subst hji
           rcases hstop with ⟨p1,p2,p3⟩|⟨p1,p2,p3⟩
           ·
            (have hil:j < sh.length:=by rw[HSL.out];exact hlt)
            have him:sh[j]=false:=by
             cases e:sh[j] with
             | false=>rfl
             | true=>exact(HGE.out.2.2.2 ⟨hil,e⟩).elim
            have HTT:Aside0 (out ++ cutsGo rows sh r (j+1)=H):=⟨by have:=HT.out;rwa [cutsGo_miss rows hil him] at this⟩;obtain⟨ad2,hae,z0,z1⟩:=at_T57 (Kd.C_below (Kd.F_now HF.out) HI.out.bel) (j:Int) (by omega) (by omega);cases hae;(rw[rdH hlt] at z0 z1);(rw[show (j:Int).toNat=j by omega] at z0 z1);have hxs:=HZ.out _ (List.getElem_mem hlt);have hr1:ctR rows (j+1)=passL rows[j].f0 (ctR rows j):=passR_snoc hlt;have hr2:ctN rows (j+1)=ctN rows j+oneB (!lostB rows[j].f0):=passN_snoc hlt;have HR1:=Aside0.mk hr1;have HR2':=Aside0.mk hr2;obtain⟨xr,hxr⟩ : ∃ xr,rows[j]=xr:=⟨_,rfl⟩;(rw[hxr] at z0 z1 hxs HR1 HR2');clear hil him hr1 hr2 hxr;(go_wp2_with fail);refine(counter_pass (W.heap.size+1) W.heap.size (ctR rows j) (ctN rows j) xr wr HI.out.ct hxs (by rw[ctR_len,hm0];omega) (fun m hm=>by have:=ctR_low rows j m hm;omega) (by have:=ctN_low rows j;omega)).mono ?_;rintro e W2 ⟨rfl,HC2,HK2⟩;have HI2:Aside0 (HuI P w w4.heap.size W.heap.size (w6.heap.size+1) (.slice (some ad) rows.length c) rows.length xn dense sh (ctR rows (j+1)) (ctN rows (j+1)) out (.slice Ao out.length co) W2):=⟨HI.out.keep2 HK2.out (by rw[HR1.out,HR2'.out];exact HC2.out)⟩;clear HC2 HK2;(go_wp2_with fail);exact⟨⟨j+1,r,out,Ao,co,rfl,by go_num,by omega,by omega,HTT,HI2⟩,by simp[intOf];omega⟩
           (· exact absurd hlt p1)
       (· (have hk':i=rows.length:=by omega);subst hk';have HE:Aside0 (out=H):=⟨by have:=HT.out;rwa [cutsGo_end rows (by rw[HSL.out];exact hlt),List.append_nil] at this⟩;(go_wp2_with fail);have hfin:=HI.out.fin (d:=w6.heap.size+1) (by have:=HS6.out;have:=HS4.out;omega) (.deferred none);rw[HR2.out];(rw[HE.out] at hfin ⊢);refine⟨by simp, .inl ⟨_,_,rfl,run_takeDeferred HI.out.def_,?_⟩⟩;exact⟨_,results_tmp2 rfl _ _ _,_,rfl,hfin.1,hfin.2⟩)
end Go.Proofs.YthcnfflhejogfaaDoor.X
namespace Go.Proofs.YthcnfflhejogfaaDoor.X
open Go.RowKit Go.Proofs.YthcnfflhejogfaaDoorW.PrintWords Go.Proofs.YthcnfflhejogfaaDoorW.PrintLast Go.Proofs.YthcnfflhejogfaaDoorW.PrintMore
theorem MaxAt.go {w W:World} (h:Aside0 (MaxAt w)) (hb:Below w.heap.size w W):MaxAt W:=h.out.step hb
def lowB (rows:List RowH):Bool:=decide (rows.length≤1000000) && rows.all (fun x=>decide (x.f0.size≤1000000) && decide (x.f1.size≤1000000))
theorem lowB_iff {rows:List RowH} (h:lowB rows=true):rows.length≤1000000∧Low rows∧LowT rows:=by
 (rw[lowB,Bool.and_eq_true,decide_eq_true_eq,List.all_eq_true] at h);refine⟨h.1,fun x hx=>?_,fun x hx=>?_⟩;(· (have:=h.2 x hx;rw[Bool.and_eq_true,decide_eq_true_eq,decide_eq_true_eq] at this;exact this.1));(· (have:=h.2 x hx;rw[Bool.and_eq_true,decide_eq_true_eq,decide_eq_true_eq] at this;exact this.2))
theorem lowB_mk {rows:List RowH} (h1:rows.length≤1000000) (h2:Low rows) (h3:LowT rows):lowB rows=true:=by
 rw[lowB,Bool.and_eq_true,decide_eq_true_eq,List.all_eq_true];exact⟨h1,fun x hx=>by rw[Bool.and_eq_true,decide_eq_true_eq,decide_eq_true_eq];exact⟨h2 x hx,h3 x hx⟩⟩
def groupsC (rows:List RowH):List Span45:=(HkP.groupsGo mrkB rows (rows.length+1) 0).map spanN
def hunksC (rows:List RowH) (x:Int) (dense:Bool):List Hunk48 × Int :=
  if x < 0∨1000 < x then ([],1) else if mayB rows=false then ([],2) else (cutsH rows (shownC rows x.toNat dense),0)
theorem hunks_eq (rows:List RowH) (x:Int) (dense:Bool):hunksP rows x dense (mayB rows)=hunksC rows x dense:=by
 rw[hunksP,hunksC,shown_eq]
def hunk_Groups.f (l0:List S57):Option (List S45):=if lowB l0=true then some (groupsC l0) else none
theorem hunk_Groups.calls (A0:Option Addr) (c0:Nat) (l0:List S57) (r:List S45) (w:World) (hr0:Kd.C k57 w A0 l0.length l0) (hc0:l0.length≤c0) (h:hunk_Groups.f l0=some r) :
    Calls Tryd.prog 31 #[.slice A0 l0.length c0] w fun e w' => ∃ v0_:Value,e = .returned (v0_)∧Kd.R k45 45 w' w.heap.size (fun _=>True) v0_ r∧Below w.heap.size w w':=by
 (unfold hunk_Groups.f at h);(split at h)
 ·
  rename_i hf;obtain rfl:=Option.some.inj h;obtain⟨h1,h2,_⟩:=lowB_iff hf;have:=hunk_Groups A0 c0 l0 w hr0 h1 h2
  rwa [groupsGo_mrk] at this
 (· cases h)
def hunk_Dull.f (l0:List S57):Option Bool:=if lowB l0=true then some (dullB l0) else none
theorem hunk_Dull.calls (A0:Option Addr) (c0:Nat) (l0:List S57) (r:Bool) (w:World) (hr0:Kd.C k57 w A0 l0.length l0) (hc0:l0.length≤c0) (h:hunk_Dull.f l0=some r)
    (hm_:MaxAt w:=by exact MaxAt.go HMX bel_) :
    Calls Tryd.prog 33 #[.slice A0 l0.length c0] w fun e w'=>e = .returned (.bool r)∧Below w.heap.size w w':=by
 (unfold hunk_Dull.f at h);(split at h);(· rename_i hf;obtain rfl:=Option.some.inj h;obtain⟨h1,h2,_⟩:=lowB_iff hf;refine(hunk_Dull A0 c0 l0 w hm_ hr0 hc0 h1 h2).mono ?_;rintro e w' ⟨he,hb⟩;exact⟨he,hb.out⟩);(· cases h)
def hunk_Hunks.f (l0:List S57) (a1:Int) (a2:Bool):Option (List S48 × Int):=if lowB l0=true then some (hunksC l0 a1 a2) else none
theorem hunk_Hunks.calls (P0_:Nat→Prop) (A0:Option Addr) (c0:Nat) (l0:List S57) (a1:Int) (a2:Bool) (r1:List S48) (r2:Int) (w:World) (hs0:Kd.V k57 57 w w.heap.size (fun k_=>P0_ k_) (.slice A0 l0.length c0) l0) (h:hunk_Hunks.f l0 a1 a2=some (r1,r2))
    (hm_:MaxAt w:=by exact MaxAt.go HMX bel_) :
    Calls Tryd.prog 28 #[.slice A0 l0.length c0, .int .i64 a1, .bool a2] w fun e w' => ∃ v0_:Value,e = .returned (.tuple #[v0_, .int .i64 r2])∧Kd.N k48 48 w' w.heap.size (fun k_=>(P0_ k_∨w.heap.size≤k_)) v0_ r1∧Below w.heap.size w w':=by
 (unfold hunk_Hunks.f at h);(split at h);(· rename_i hf;have h:=Option.some.inj h;obtain⟨h1,h2,h3⟩:=lowB_iff hf;obtain⟨_,hc0,hf0⟩:=Kd.V_at hs0;obtain⟨K,hK⟩:=may_Hunk h2 h3 h1;have:=hunk_Hunks (fun k=>P0_ k) A0 c0 l0 a1 a2 (mayB l0) K w hm_ hf0 hc0 h1 h2 (hK K (Nat.le_refl _));(rw[hunks_eq,h] at this);exact this);(· cases h)
end Go.Proofs.YthcnfflhejogfaaDoor.X
namespace Go.Proofs.YthcnfflhejogfaaDoor.X
open Go.RowKit Go.Proofs.YthcnfflhejogfaaDoorW.PrintWords Go.Proofs.YthcnfflhejogfaaDoorW.PrintLast Go.Proofs.YthcnfflhejogfaaDoorW.PrintMore
attribute [local go_sem] max2_int min2_int max_two min_two max_three min_three max_four min_four
def sennitlaw21_awake.f (k:Nat)  : Option (Bool):=(some (([(⟨(⟨#[32,32]⟩:ByteArray),(⟨#[97,10]⟩:ByteArray)⟩:S57),(⟨(⟨#[43,32]⟩:ByteArray),(⟨#[98,10]⟩:ByteArray)⟩:S57),(⟨(⟨#[32,32]⟩:ByteArray),(⟨#[99,10]⟩:ByteArray)⟩:S57),(⟨(⟨#[32,32]⟩:ByteArray),(⟨#[100,10]⟩:ByteArray)⟩:S57)]:List (S57)):List (S57))).bind fun y101=>((hunk_Hunks.f y101 1 false).bind fun bt104=>((hunk_Hunks.f y101 1 true).bind fun bt108=>((hunk_Hunks.f y101 (-1) false).bind fun bt112=>(if bt104.2=0 then (if bt108.2=0 then (if bt112.2=1 then (if (bt104.1.length:Int)=1 then (if 0 < (bt104.1.length:Int) then (if (((rd_T48 bt104.1 0).f2).length:Int)=3 then (if ((rd_T48 bt104.1 0).f1.f1)=3 then (if 0 < (((rd_T48 bt104.1 0).f0).length:Int) then (if ((rd_T45 ((rd_T48 bt104.1 0).f0) 0).f1)=2 then (if (bt108.1.length:Int)=0 then (if 1≤2 then (if 2≤(y101.length:Int) then ((hunk_Dull.f ((y101.take 2).drop 1)).bind fun t125=>(if t125=true then ((hunk_Groups.f y101).bind fun t126=>(if (t126.length:Int)=1 then ((hunk_May.f k y101).bind fun t129=>(some t129)) else (some false))) else (some false))) else (none)) else (none)) else (some false)) else (some false)) else (none)) else (some false)) else (some false)) else (none)) else (some false)) else (some false)) else (some false)) else (some false)))))
theorem sennitlaw21_awake.mono : ∀ k,LeO (sennitlaw21_awake.f k ) (sennitlaw21_awake.f (k+1) ):=by
 intro  k;unfold sennitlaw21_awake.f
 repeat' first
  | (with_reducible exact hunk_May.mono _ _)
  | (with_reducible exact LeO.refl _)
  | (with_reducible exact LeO.none _)
  | (with_reducible refine LeO.ite ?_ ?_)
  | (with_reducible refine LeO.bind ?_ (fun _=>?_))
  | exact hunk_May.mono _ _
  | exact LeO.none _
  | refine LeO.ite ?_ ?_
  | refine LeO.bind ?_ (fun _=>?_)
theorem sennitlaw21_awake.at100:sennitlaw21_awake.f 100=some true:=by decide +kernel
theorem sennitlaw21_awake.up : ∀ n,sennitlaw21_awake.f (100+n)=some true
 | 0=>sennitlaw21_awake.at100
 | n+1=>sennitlaw21_awake.mono (100+n) _ (sennitlaw21_awake.up n)
theorem sennitlaw21_awake.true_ {k:Nat} {r:Bool} (h:sennitlaw21_awake.f k  = some r):r=true:=by
 have e : ∀ n,sennitlaw21_awake.f (k+n)=some r:=fun n=>by
  induction n with
  | zero=>exact h
  | succ n ih=>exact sennitlaw21_awake.mono (k+n) _ ih
 have h1:=e 100;(rw[Nat.add_comm,sennitlaw21_awake.up k] at h1);exact(Option.some.inj h1).symm
theorem sennitlaw21_awake.gives : ∃ K,∀ k,K≤k→sennitlaw21_awake.f k=some true:=⟨100,fun k hk=>by
  obtain⟨n,rfl⟩ : ∃ n,k=100+n:=⟨k - 100,by omega⟩
  exact sennitlaw21_awake.up n⟩
theorem sennitlaw21_awake.calls (k:Nat)  (r:Bool) (w:World) (h:sennitlaw21_awake.f k  = some r) (HMX:Aside0 (MaxAt w):=by exact⟨MaxAt.go HMX bel_⟩) :
    Calls Tryd.prog 26 #[] w fun e w'=>e = .returned (.bool r)∧Below w.heap.size w w':=by
 have hrt_:r=true:=sennitlaw21_awake.true_ h;have hu57:=Tryd.underlying57;have HB:=Aside0.mk (Below.refl w.heap.size w);have H:=h;(rw[sennitlaw21_awake.f] at H);clear h;obtain⟨y101,hy101⟩ : ∃ y_:List (S57),y_=(([(⟨(⟨#[32,32]⟩:ByteArray),(⟨#[97,10]⟩:ByteArray)⟩:S57),(⟨(⟨#[43,32]⟩:ByteArray),(⟨#[98,10]⟩:ByteArray)⟩:S57),(⟨(⟨#[32,32]⟩:ByteArray),(⟨#[99,10]⟩:ByteArray)⟩:S57),(⟨(⟨#[32,32]⟩:ByteArray),(⟨#[100,10]⟩:ByteArray)⟩:S57)]:List (S57))):=⟨_,rfl⟩;((try rw[Option.bind_some] at H);rw[← hy101] at H);have Ny101:=Aside0.mk hy101;clear hy101;replace H:=Option.bind_eq_some_iff.mp H;obtain⟨⟨t104,t107⟩,A10,H⟩:=H;(try dsimp only at H);have A1:=Aside0.mk A10;clear A10;replace H:=Option.bind_eq_some_iff.mp H;obtain⟨⟨t108,t111⟩,A20,H⟩:=H;(try dsimp only at H);have A2:=Aside0.mk A20;clear A20;replace H:=Option.bind_eq_some_iff.mp H;obtain⟨⟨t112,t115⟩,A30,H⟩:=H;(try dsimp only at H);have A3:=Aside0.mk A30;clear A30
 by_cases c4:t107=0
 ·
  (rw[if_pos c4] at H);have c4b0:(t107 == 0)=true:=beq_iff_eq.mpr c4;have c4b1:(t107 != 0)=false:=bne_eq_false_iff_eq.mpr c4;clear c4
  by_cases c5:t111=0
  ·
   (rw[if_pos c5] at H);have c5b0:(t111 == 0)=true:=beq_iff_eq.mpr c5;have c5b1:(t111 != 0)=false:=bne_eq_false_iff_eq.mpr c5;clear c5
   by_cases c6:t115=1
   ·
    (rw[if_pos c6] at H);have c6b0:(t115 == 1)=true:=beq_iff_eq.mpr c6;have c6b1:(t115 != 1)=false:=bne_eq_false_iff_eq.mpr c6;clear c6
    by_cases c7:(t104.length:Int)=1
    ·
     (rw[if_pos c7] at H);have c7b0:((t104.length:Int) == 1)=true:=beq_iff_eq.mpr c7;have c7b1:((t104.length:Int) != 1)=false:=bne_eq_false_iff_eq.mpr c7;clear c7
     by_cases c8:0 < (t104.length:Int)
     ·
      (rw[if_pos c8] at H);have c8b0:decide (0 < (t104.length:Int))=true:=decide_eq_true c8;have c8b1:decide (0 < t104.length)=true:=decide_eq_true (by omega);clear c8
      by_cases c9:(((rd_T48 t104 0).f2).length:Int)=3
      ·
       (rw[if_pos c9] at H);have c9b0:((((rd_T48 t104 0).f2).length:Int) == 3)=true:=beq_iff_eq.mpr c9;have c9b1:((((rd_T48 t104 0).f2).length:Int) != 3)=false:=bne_eq_false_iff_eq.mpr c9;clear c9
       by_cases c10:((rd_T48 t104 0).f1.f1)=3
       ·
        (rw[if_pos c10] at H);have c10b0:(((rd_T48 t104 0).f1.f1) == 3)=true:=beq_iff_eq.mpr c10;have c10b1:(((rd_T48 t104 0).f1.f1) != 3)=false:=bne_eq_false_iff_eq.mpr c10;clear c10
        by_cases c11:0 < (((rd_T48 t104 0).f0).length:Int)
        ·
         (rw[if_pos c11] at H);have c11b0:decide (0 < (((rd_T48 t104 0).f0).length:Int))=true:=decide_eq_true c11;have c11b1:decide (0 < ((rd_T48 t104 0).f0).length)=true:=decide_eq_true (by omega);clear c11
         by_cases c12:((rd_T45 ((rd_T48 t104 0).f0) 0).f1)=2
         ·
          (rw[if_pos c12] at H);have c12b0:(((rd_T45 ((rd_T48 t104 0).f0) 0).f1) == 2)=true:=beq_iff_eq.mpr c12;have c12b1:(((rd_T45 ((rd_T48 t104 0).f0) 0).f1) != 2)=false:=bne_eq_false_iff_eq.mpr c12;clear c12
          by_cases c13:(t108.length:Int)=0
          ·
           (rw[if_pos c13] at H);have c13b0:((t108.length:Int) == 0)=true:=beq_iff_eq.mpr c13;have c13b1:((t108.length:Int) != 0)=false:=bne_eq_false_iff_eq.mpr c13;clear c13
           by_cases c14:1≤2
           ·
            (rw[if_pos c14] at H);have c14b0:=eq_true c14;have c14b1:decide (1≤2)=true:=decide_eq_true c14;clear c14
            by_cases c15:2≤(y101.length:Int)
            ·
             (rw[if_pos c15] at H);have c15b0:=eq_true c15;have c15b1:decide (2≤(y101.length:Int))=true:=decide_eq_true c15;clear c15;obtain⟨y120,hy120⟩ : ∃ y_:List (S57),y_=((y101.take 2).drop 1):=⟨_,rfl⟩;((try rw[Option.bind_some] at H);rw[← hy120] at H);have Ny120:=Aside0.mk hy120;clear hy120;replace H:=Option.bind_eq_some_iff.mp H;obtain⟨t125,A160,H⟩:=H;(try dsimp only at H);have A16:=Aside0.mk A160;clear A160
             by_cases c17:t125=true
             ·
              subst c17;have H1:=H;(rw[if_pos rfl] at H1);clear H;have H:=H1;clear H1;replace H:=Option.bind_eq_some_iff.mp H;obtain⟨t126,A180,H⟩:=H;(try dsimp only at H);have A18:=Aside0.mk A180;clear A180
              by_cases c19:(t126.length:Int)=1
              (· (rw[if_pos c19] at H);have c19b0:((t126.length:Int) == 1)=true:=beq_iff_eq.mpr c19;have c19b1:((t126.length:Int) != 1)=false:=bne_eq_false_iff_eq.mpr c19;clear c19;replace H:=Option.bind_eq_some_iff.mp H;obtain⟨t129,A200,H⟩:=H;(try dsimp only at H);have A20:=Aside0.mk A200;clear A200;obtain rfl:=Option.some.inj H;go_enter Tryd.func26,Tryd.ntmps26;(go_wp2_with (first|((with_reducible refine gate_dst (N:=12) rfl ?_);(try(refine gate_guard (by rfl) ?_;dsimp only));refine Kd.R_lit k57 _ 57 ?hg (N:=12) ?hd (xs:=([(⟨(⟨#[32,32]⟩:ByteArray),(⟨#[97,10]⟩:ByteArray)⟩:S57),(⟨(⟨#[43,32]⟩:ByteArray),(⟨#[98,10]⟩:ByteArray)⟩:S57),(⟨(⟨#[32,32]⟩:ByteArray),(⟨#[99,10]⟩:ByteArray)⟩:S57),(⟨(⟨#[32,32]⟩:ByteArray),(⟨#[100,10]⟩:ByteArray)⟩:S57)]:List (S57))) (inner:=[.string (⟨#[32,32]⟩:ByteArray), .string (⟨#[97,10]⟩:ByteArray), .string (⟨#[43,32]⟩:ByteArray), .string (⟨#[98,10]⟩:ByteArray), .string (⟨#[32,32]⟩:ByteArray), .string (⟨#[99,10]⟩:ByteArray), .string (⟨#[32,32]⟩:ByteArray), .string (⟨#[100,10]⟩:ByteArray)]) (ok:=fun _=>True) (okp:=fun _=>True) ?hr ?hp (fun _ hk=>hk) trivial (Below.refl _ _) (Nat.le_refl _) (by simp) ?_;(case hd=>rfl);(case hg=>rfl);(case hr=>first|(go_simp;done)|(go_simp;rfl));(case hp=>exact(Reps.c2 (show Kd.M k57 _ _ _ (⟨(⟨#[32,32]⟩:ByteArray),(⟨#[97,10]⟩:ByteArray)⟩:S57) [.string (⟨#[32,32]⟩:ByteArray), .string (⟨#[97,10]⟩:ByteArray)] from (k57_mkM _ _ _ (⟨(⟨#[32,32]⟩:ByteArray),(⟨#[97,10]⟩:ByteArray)⟩:S57) )) (Reps.c2 (show Kd.M k57 _ _ _ (⟨(⟨#[43,32]⟩:ByteArray),(⟨#[98,10]⟩:ByteArray)⟩:S57) [.string (⟨#[43,32]⟩:ByteArray), .string (⟨#[98,10]⟩:ByteArray)] from (k57_mkM _ _ _ (⟨(⟨#[43,32]⟩:ByteArray),(⟨#[98,10]⟩:ByteArray)⟩:S57) )) (Reps.c2 (show Kd.M k57 _ _ _ (⟨(⟨#[32,32]⟩:ByteArray),(⟨#[99,10]⟩:ByteArray)⟩:S57) [.string (⟨#[32,32]⟩:ByteArray), .string (⟨#[99,10]⟩:ByteArray)] from (k57_mkM _ _ _ (⟨(⟨#[32,32]⟩:ByteArray),(⟨#[99,10]⟩:ByteArray)⟩:S57) )) (Reps.c2 (show Kd.M k57 _ _ _ (⟨(⟨#[32,32]⟩:ByteArray),(⟨#[100,10]⟩:ByteArray)⟩:S57) [.string (⟨#[32,32]⟩:ByteArray), .string (⟨#[100,10]⟩:ByteArray)] from (k57_mkM _ _ _ (⟨(⟨#[32,32]⟩:ByteArray),(⟨#[100,10]⟩:ByteArray)⟩:S57) )) (Reps.none _ _))))));intro v102 w21 ho22 hb hg_ hnew_;clear hg_ hnew_;(first|rw[← Ny101.out] at ho22|(simp only[Int.reduceToNat] at ho22;rw[← Ny101.out] at ho22));have HO103:=Aside0.mk (Kd.R_lower ho22 (below_size bel_));replace HB:=Aside0.mk (below_step bel_ hb);clear hb ho22;obtain⟨Ao23,co23,eo23⟩:=Kd.R_slice HO103.out;subst eo23)|((with_reducible refine gate_callee (f:=28) rfl ?_);refine goesL_ (some 15) rfl rfl Tryd.func28 (by kernel_rfl) rfl #[.slice Ao23 y101.length co23, .int .i64 1, .bool false] rfl am_ ?_;(with_reducible refine(hunk_Hunks.calls (fun k_=>some k_=(.slice Ao23 y101.length co23:Value).ownBlock) _ _ y101 1 false t104 t107 _ ?side1 A1.out).mono ?_);(case side1=>exact Kd.R_V (Kd.R_tight rfl (HO103.out)));rintro e w24 ⟨v105,rfl,ho0,hb⟩;refine⟨_,rfl,?_⟩;replace HO103:=Aside0.mk (Kd.R_below (pR_ HO103.out) hb);have HO106:=Aside0.mk (Kd.N_lower (Kd.N_mono (ok':=fun k_=>True) ho0 (fun k_ hk_=>trivial)) (below_size bel_));replace HB:=Aside0.mk (below_step bel_ hb);(try clear hb);(try clear hb2);(try clear hk);(try clear hi);(try clear ho0))|((with_reducible refine gate_callee (f:=28) rfl ?_);refine goesL_ (some 20) rfl rfl Tryd.func28 (by kernel_rfl) rfl #[.slice Ao23 y101.length co23, .int .i64 1, .bool true] rfl am_ ?_;(with_reducible refine(hunk_Hunks.calls (fun k_=>some k_=(.slice Ao23 y101.length co23:Value).ownBlock) _ _ y101 1 true t108 t111 _ ?side1 A2.out).mono ?_);(case side1=>exact Kd.R_V (Kd.R_tight rfl (Kd.R_apart' (HO103.out) (Kd.N_typed HO106.out) (by decide))));rintro e w25 ⟨v109,rfl,ho0,hb⟩;refine⟨_,rfl,?_⟩;have HO110:=Aside0.mk (Kd.N_lower (Kd.N_mono (ok':=fun k_=>some k_≠(v105:Value).ownBlock) ho0 (fun k_ hk_=>Or.elim hk_ (fun hs_=>((Kd.R_apart' (HO103.out) (Kd.N_typed HO106.out) (by decide)).1 k_ hs_.symm).2) (fun hn_=>(Kd.fresh' (Kd.N_lt (pN_ HO106.out)) k_ hn_)))) (below_size bel_));replace HO103:=Aside0.mk (Kd.R_below (pR_ HO103.out) hb);replace HO106:=Aside0.mk (Kd.N_elder' (pN_ HO106.out) (Kd.N_base (nb_ ho0)) hb);replace HB:=Aside0.mk (below_step bel_ hb);(try clear hb);(try clear hb2);(try clear hk);(try clear hi);(try clear ho0))|((with_reducible refine gate_callee (f:=28) rfl ?_);refine goesL_ (some 25) rfl rfl Tryd.func28 (by kernel_rfl) rfl #[.slice Ao23 y101.length co23, .int .i64 (-1), .bool false] rfl am_ ?_;(with_reducible refine(hunk_Hunks.calls (fun k_=>some k_=(.slice Ao23 y101.length co23:Value).ownBlock) _ _ y101 (-1) false t112 t115 _ ?side1 A3.out).mono ?_);(case side1=>exact Kd.R_V (Kd.R_tight rfl (Kd.R_apart' (Kd.R_apart' (HO103.out) (Kd.N_typed HO106.out) (by decide)) (Kd.N_typed HO110.out) (by decide))));rintro e w26 ⟨v113,rfl,ho0,hb⟩;refine⟨_,rfl,?_⟩;have HO114:=Aside0.mk (Kd.N_lower (Kd.N_mono (ok':=fun k_=>some k_≠(v105:Value).ownBlock∧some k_≠(v109:Value).ownBlock) ho0 (fun k_ hk_=>⟨Or.elim hk_ (fun hs_=>((Kd.R_apart' (Kd.R_apart' (HO103.out) (Kd.N_typed HO106.out) (by decide)) (Kd.N_typed HO110.out) (by decide)).1 k_ hs_.symm).1.2) (fun hn_=>(Kd.fresh' (Kd.N_lt (pN_ HO106.out)) k_ hn_)),Or.elim hk_ (fun hs_=>((Kd.R_apart' (Kd.R_apart' (HO103.out) (Kd.N_typed HO106.out) (by decide)) (Kd.N_typed HO110.out) (by decide)).1 k_ hs_.symm).2) (fun hn_=>(Kd.fresh' (Kd.N_lt (pN_ HO110.out)) k_ hn_))⟩)) (below_size bel_));replace HO103:=Aside0.mk (Kd.R_below (pR_ HO103.out) hb);replace HO106:=Aside0.mk (Kd.N_elder' (pN_ HO106.out) (Kd.N_base (nb_ ho0)) hb);replace HO110:=Aside0.mk (Kd.N_elder' (pN_ HO110.out) (Kd.N_base (nb_ ho0)) hb);replace HB:=Aside0.mk (below_step bel_ hb);(try clear hb);(try clear hb2);(try clear hk);(try clear hi);(try clear ho0);obtain⟨Ao27,co27,eo27⟩:=Kd.N_slice HO106.out;subst eo27;have p116:0≤(0:Int):=(by omega);have q116:0 < (t104.length:Int):=dt_;obtain⟨ad116,A116_0,c116_0,A116_3,c116_3,e116,hx116_0,hx116_1,hx116_2,hx116_3,hl116_0,hi116_0,hl116_3,hi116_3⟩:=at_T48 (Kd.N_reads' HO106.out).2.2 0 p116 q116;cases e116;obtain⟨ce116,hce116,hMe116,hcc116⟩:=Kd.N_get HO106.out z48 0 p116 (by first|exact q116|exact dt_|(have e_:=(Kd.N_reads' HO106.out).1;omega));obtain⟨ua116_0,uc116_0,ua116_3,uc116_3,rfl,ul116_0,ge116_0,ul116_3,ge116_3⟩:=k48_openF hMe116;have hv116_0:=hcc116 0 _ rfl;rw[Nat.add_zero] at hv116_0;replace hv116_0:=Option.some.inj (hv116_0.symm.trans hx116_0);injection hv116_0 with hva_ hvn_ hvc_;rw[hva_] at ge116_0;rw[hvc_] at ul116_0;have HL116_0:=Aside0.mk (show Kd.V k45 45 _ w.heap.size _ _ ((rd_T48 t104 0).f0) from Kd.V_mk ul116_0 ge116_0);clear hva_ hvn_ hvc_ ge116_0 ul116_0;have hv116_3:=hcc116 3 _ rfl;rw[add_field _ _ 3 (by omega)] at hv116_3;replace hv116_3:=Option.some.inj (hv116_3.symm.trans hx116_3);injection hv116_3 with hva_ hvn_ hvc_;rw[hva_] at ge116_3;rw[hvc_] at ul116_3;have HL116_3:=Aside0.mk (show Kd.V k57 57 _ w.heap.size _ _ ((rd_T48 t104 0).f2) from Kd.V_mk ul116_3 ge116_3);clear hva_ hvn_ hvc_ ge116_3 ul116_3;clear hcc116 hce116;have qi116:(0 < t104.length)=True:=eq_true (by omega);(try rw[show ((0:Int)).toNat=0 from rfl] at hx116_0);(try rw[show 0 * 4=0 from rfl] at hx116_0);(try rw[Addr.add_zero'] at hx116_0);(try rw[show ((0:Int)).toNat=0 from rfl] at hx116_1);(try rw[show 0 * 4=0 from rfl] at hx116_1);(try rw[Addr.add_zero'] at hx116_1);(try rw[show ((0:Int)).toNat=0 from rfl] at hx116_2);(try rw[show 0 * 4=0 from rfl] at hx116_2);(try rw[Addr.add_zero'] at hx116_2);(try rw[show ((0:Int)).toNat=0 from rfl] at hx116_3);(try rw[show 0 * 4=0 from rfl] at hx116_3);(try rw[Addr.add_zero'] at hx116_3);have HR116_0:=Aside0.mk hi116_0;have HC116_0:=Aside0.mk hl116_0;clear hi116_0 hl116_0;have HR116_3:=Aside0.mk hi116_3;have HC116_3:=Aside0.mk hl116_3;clear hi116_3 hl116_3;replace p116:=eq_true p116;replace q116:=eq_true q116;have p117:0≤(0:Int):=(by omega);have q117:0 < (t104.length:Int):=dt_;obtain⟨ad117,A117_0,c117_0,A117_3,c117_3,e117,hx117_0,hx117_1,hx117_2,hx117_3,hl117_0,hi117_0,hl117_3,hi117_3⟩:=at_T48 (Kd.N_reads' HO106.out).2.2 0 p117 q117;obtain rfl:ad116=ad117:=(by injection e117);obtain⟨ce117,hce117,hMe117,hcc117⟩:=Kd.N_get HO106.out z48 0 p117 (by first|exact q117|exact dt_|(have e_:=(Kd.N_reads' HO106.out).1;omega));obtain⟨ua117_0,uc117_0,ua117_3,uc117_3,rfl,ul117_0,ge117_0,ul117_3,ge117_3⟩:=k48_openF hMe117;have hv117_0:=hcc117 0 _ rfl;rw[Nat.add_zero] at hv117_0;replace hv117_0:=Option.some.inj (hv117_0.symm.trans hx117_0);injection hv117_0 with hva_ hvn_ hvc_;rw[hva_] at ge117_0;rw[hvc_] at ul117_0;have HL117_0:=Aside0.mk (show Kd.V k45 45 _ w.heap.size _ _ ((rd_T48 t104 0).f0) from Kd.V_mk ul117_0 ge117_0);clear hva_ hvn_ hvc_ ge117_0 ul117_0;have hv117_3:=hcc117 3 _ rfl;rw[add_field _ _ 3 (by omega)] at hv117_3;replace hv117_3:=Option.some.inj (hv117_3.symm.trans hx117_3);injection hv117_3 with hva_ hvn_ hvc_;rw[hva_] at ge117_3;rw[hvc_] at ul117_3;have HL117_3:=Aside0.mk (show Kd.V k57 57 _ w.heap.size _ _ ((rd_T48 t104 0).f2) from Kd.V_mk ul117_3 ge117_3);clear hva_ hvn_ hvc_ ge117_3 ul117_3;clear hcc117 hce117;have qi117:(0 < t104.length)=True:=eq_true (by omega);(try rw[show ((0:Int)).toNat=0 from rfl] at hx117_0);(try rw[show 0 * 4=0 from rfl] at hx117_0);(try rw[Addr.add_zero'] at hx117_0);(try rw[show ((0:Int)).toNat=0 from rfl] at hx117_1);(try rw[show 0 * 4=0 from rfl] at hx117_1);(try rw[Addr.add_zero'] at hx117_1);(try rw[show ((0:Int)).toNat=0 from rfl] at hx117_2);(try rw[show 0 * 4=0 from rfl] at hx117_2);(try rw[Addr.add_zero'] at hx117_2);(try rw[show ((0:Int)).toNat=0 from rfl] at hx117_3);(try rw[show 0 * 4=0 from rfl] at hx117_3);(try rw[Addr.add_zero'] at hx117_3);have HR117_0:=Aside0.mk hi117_0;have HC117_0:=Aside0.mk hl117_0;clear hi117_0 hl117_0;have HR117_3:=Aside0.mk hi117_3;have HC117_3:=Aside0.mk hl117_3;clear hi117_3 hl117_3;replace p117:=eq_true p117;replace q117:=eq_true q117;have ea_:=Option.some.inj (hx116_0.symm.trans hx117_0);injection ea_ with ea_ en_ ec_;subst ea_;subst ec_;clear en_;have ea_:=Option.some.inj (hx116_3.symm.trans hx117_3);injection ea_ with ea_ en_ ec_;subst ea_;subst ec_;clear en_;have p118:0≤(0:Int):=(by omega);have q118:0 < (t104.length:Int):=dt_;obtain⟨ad118,A118_0,c118_0,A118_3,c118_3,e118,hx118_0,hx118_1,hx118_2,hx118_3,hl118_0,hi118_0,hl118_3,hi118_3⟩:=at_T48 (Kd.N_reads' HO106.out).2.2 0 p118 q118;obtain rfl:ad116=ad118:=(by injection e118);obtain⟨ce118,hce118,hMe118,hcc118⟩:=Kd.N_get HO106.out z48 0 p118 (by first|exact q118|exact dt_|(have e_:=(Kd.N_reads' HO106.out).1;omega));obtain⟨ua118_0,uc118_0,ua118_3,uc118_3,rfl,ul118_0,ge118_0,ul118_3,ge118_3⟩:=k48_openF hMe118;have hv118_0:=hcc118 0 _ rfl;rw[Nat.add_zero] at hv118_0;replace hv118_0:=Option.some.inj (hv118_0.symm.trans hx118_0);injection hv118_0 with hva_ hvn_ hvc_;rw[hva_] at ge118_0;rw[hvc_] at ul118_0;have HL118_0:=Aside0.mk (show Kd.V k45 45 _ w.heap.size _ _ ((rd_T48 t104 0).f0) from Kd.V_mk ul118_0 ge118_0);clear hva_ hvn_ hvc_ ge118_0 ul118_0;have hv118_3:=hcc118 3 _ rfl;rw[add_field _ _ 3 (by omega)] at hv118_3;replace hv118_3:=Option.some.inj (hv118_3.symm.trans hx118_3);injection hv118_3 with hva_ hvn_ hvc_;rw[hva_] at ge118_3;rw[hvc_] at ul118_3;have HL118_3:=Aside0.mk (show Kd.V k57 57 _ w.heap.size _ _ ((rd_T48 t104 0).f2) from Kd.V_mk ul118_3 ge118_3);clear hva_ hvn_ hvc_ ge118_3 ul118_3;clear hcc118 hce118;have qi118:(0 < t104.length)=True:=eq_true (by omega);(try rw[show ((0:Int)).toNat=0 from rfl] at hx118_0);(try rw[show 0 * 4=0 from rfl] at hx118_0);(try rw[Addr.add_zero'] at hx118_0);(try rw[show ((0:Int)).toNat=0 from rfl] at hx118_1);(try rw[show 0 * 4=0 from rfl] at hx118_1);(try rw[Addr.add_zero'] at hx118_1);(try rw[show ((0:Int)).toNat=0 from rfl] at hx118_2);(try rw[show 0 * 4=0 from rfl] at hx118_2);(try rw[Addr.add_zero'] at hx118_2);(try rw[show ((0:Int)).toNat=0 from rfl] at hx118_3);(try rw[show 0 * 4=0 from rfl] at hx118_3);(try rw[Addr.add_zero'] at hx118_3);have HR118_0:=Aside0.mk hi118_0;have HC118_0:=Aside0.mk hl118_0;clear hi118_0 hl118_0;have HR118_3:=Aside0.mk hi118_3;have HC118_3:=Aside0.mk hl118_3;clear hi118_3 hl118_3;replace p118:=eq_true p118;replace q118:=eq_true q118;have ea_:=Option.some.inj (hx116_0.symm.trans hx118_0);injection ea_ with ea_ en_ ec_;subst ea_;subst ec_;clear en_;have ea_:=Option.some.inj (hx116_3.symm.trans hx118_3);injection ea_ with ea_ en_ ec_;subst ea_;subst ec_;clear en_;have p119:0≤(0:Int):=(by omega);have q119:0 < (((rd_T48 t104 0).f0).length:Int):=dt_;obtain⟨ad119,e119,hx119_0,hx119_1⟩:=at_T45 (pC_ HR118_0.out) 0 p119 q119;cases e119;have qi119:(0 < ((rd_T48 t104 0).f0).length)=True:=eq_true (by omega);(try rw[show ((0:Int)).toNat=0 from rfl] at hx119_0);(try rw[show 0 * 2=0 from rfl] at hx119_0);(try rw[Addr.add_zero'] at hx119_0);(try rw[show ((0:Int)).toNat=0 from rfl] at hx119_1);(try rw[show 0 * 2=0 from rfl] at hx119_1);(try rw[Addr.add_zero'] at hx119_1);replace p119:=eq_true p119;replace q119:=eq_true q119;obtain⟨Ao28,co28,eo28⟩:=Kd.N_slice HO110.out;subst eo28;have q29:(2:Int)≤((y101.length:Int):Int):=dt_;obtain⟨i029,hi029,_,hsz29,_⟩:=info_parts info57;have hroom29:y101.length≤co23:=(Kd.R_reads' HO103.out).2.1;have hC29:Kd.F k57 _ _ Ao23 y101.length y101:=(Kd.V_at (base:=w.heap.size) (Kd.R_V (Kd.R_apart' (Kd.R_apart' (Kd.R_apart' (HO103.out) (Kd.N_typed HO106.out) (by decide)) (Kd.N_typed HO110.out) (by decide)) (Kd.N_typed HO114.out) (by decide)))).2.2;have ql29:(1:Int)≤(2:Int):=(by omega);have hcut29:=cut_mid (P:=Tryd.prog) 36 57 .i64 .i64 Tryd.underlying36 hi029 2 hsz29 Ao23 y101.length co23 1 2 (by omega) ql29 q29 hroom29;have hr29:=Kd.F_mid (lo:=(1:Int).toNat) (hi:=(2:Int).toNat) (c:=co23) hC29 (by omega) (by omega) hroom29;obtain⟨A29,hA29⟩ : ∃ Az_,Az_=(if co23=(1:Int).toNat then Ao23 else (Ao23:Option Addr).map (·.add ((1:Int).toNat * 2))):=⟨_,rfl⟩;obtain⟨c29,hc29⟩ : ∃ c1,c1=co23 - (1:Int).toNat:=⟨_,rfl⟩;have hy29:y120.length=(2:Int).toNat - (1:Int).toNat:=(by rw[Ny120.out,List.length_drop,List.length_take] <;> omega);rw[show ((y101).take (2:Int).toNat).drop (1:Int).toNat=y120 from Ny120.out.symm] at hr29;replace hr29:Kd.F k57 _ _ A29 y120.length y120:=(by rw[hA29];exact hr29);rw[← hy29,← hA29,← hc29] at hcut29;have HO124:=Aside0.mk (show Kd.V k57 57 _ w.heap.size _ (.slice A29 y120.length c29) y120 from Kd.V_mk (by rw[hy29,hc29];exact Nat.sub_le_sub_right (Nat.le_trans (by omega) hroom29) _) hr29);have HC124:=Aside0.mk (show y120.length≤c29 from by rw[hy29,hc29];exact Nat.sub_le_sub_right (Nat.le_trans (by omega) hroom29) _);clear hr29 hC29 hroom29 hi029 hsz29 hc29;have KY29:=Aside0.mk hy29;have KA29:=Aside0.mk hA29;clear hy29 hA29;replace q29:=eq_true q29)|(go_at_call 33;(with_reducible refine(hunk_Dull.calls _ _ y120 true _ ?side1 ?side2 A16.out).mono ?_);(case side1=>repeat(first|exact(Kd.V_reads' HO124.out).2.2|(with_reducible refine Kd.C_alloc ?_ _)|(with_reducible refine Kd.C_drewN ?_ _)|(with_reducible refine Kd.C_drew ?_)));(case side2=>exact(Kd.V_reads' HO124.out).2.1);rintro e w30 ⟨rfl,hb⟩;replace HO103:=Aside0.mk (Kd.R_below (pR_ HO103.out) hb);replace HO106:=Aside0.mk (Kd.N_below (pN_ HO106.out) hb);replace HO110:=Aside0.mk (Kd.N_below (pN_ HO110.out) hb);replace HO114:=Aside0.mk (Kd.N_below (pN_ HO114.out) hb);replace HL116_0:=Aside0.mk (Kd.V_below (pV_ HL116_0.out) hb);replace HL116_3:=Aside0.mk (Kd.V_below (pV_ HL116_3.out) hb);replace HL117_0:=Aside0.mk (Kd.V_below (pV_ HL117_0.out) hb);replace HL117_3:=Aside0.mk (Kd.V_below (pV_ HL117_3.out) hb);replace HL118_0:=Aside0.mk (Kd.V_below (pV_ HL118_0.out) hb);replace HL118_3:=Aside0.mk (Kd.V_below (pV_ HL118_3.out) hb);replace HO124:=Aside0.mk (Kd.V_below (pV_ HO124.out) hb);replace HR116_0:=Aside0.mk (Kd.C_below (pC_ HR116_0.out) hb);replace HR116_3:=Aside0.mk (Kd.C_below (pC_ HR116_3.out) hb);replace HR117_0:=Aside0.mk (Kd.C_below (pC_ HR117_0.out) hb);replace HR117_3:=Aside0.mk (Kd.C_below (pC_ HR117_3.out) hb);replace HR118_0:=Aside0.mk (Kd.C_below (pC_ HR118_0.out) hb);replace HR118_3:=Aside0.mk (Kd.C_below (pC_ HR118_3.out) hb);replace HB:=Aside0.mk (below_step bel_ hb);(try clear hb);(try clear hb2);(try clear hk);(try clear hi))|(go_at_call 31;(with_reducible refine(hunk_Groups.calls _ _ y101 t126 _ ?side1 ?side2 A18.out).mono ?_);(case side1=>repeat(first|exact(Kd.R_reads' HO103.out).2.2|(with_reducible refine Kd.C_alloc ?_ _)|(with_reducible refine Kd.C_drewN ?_ _)|(with_reducible refine Kd.C_drew ?_)));(case side2=>exact(Kd.R_reads' HO103.out).2.1);rintro e w31 ⟨v127,rfl,ho0,hb⟩;replace HO103:=Aside0.mk (Kd.R_below (pR_ HO103.out) hb);replace HO106:=Aside0.mk (Kd.N_elder' (pN_ HO106.out) (Kd.R_base ho0) hb);replace HO110:=Aside0.mk (Kd.N_elder' (pN_ HO110.out) (Kd.R_base ho0) hb);replace HO114:=Aside0.mk (Kd.N_elder' (pN_ HO114.out) (Kd.R_base ho0) hb);replace HL116_0:=Aside0.mk (Kd.V_elder' (pV_ HL116_0.out) (Kd.R_base ho0) hb);replace HL116_3:=Aside0.mk (Kd.V_elder' (pV_ HL116_3.out) (Kd.R_base ho0) hb);replace HL117_0:=Aside0.mk (Kd.V_elder' (pV_ HL117_0.out) (Kd.R_base ho0) hb);replace HL117_3:=Aside0.mk (Kd.V_elder' (pV_ HL117_3.out) (Kd.R_base ho0) hb);replace HL118_0:=Aside0.mk (Kd.V_elder' (pV_ HL118_0.out) (Kd.R_base ho0) hb);replace HL118_3:=Aside0.mk (Kd.V_elder' (pV_ HL118_3.out) (Kd.R_base ho0) hb);replace HO124:=Aside0.mk (Kd.V_elder' (pV_ HO124.out) (Kd.R_base ho0) hb);have HO128:=Aside0.mk (Kd.R_lower ho0 (below_size bel_));replace HR116_0:=Aside0.mk (Kd.C_below (pC_ HR116_0.out) hb);replace HR116_3:=Aside0.mk (Kd.C_below (pC_ HR116_3.out) hb);replace HR117_0:=Aside0.mk (Kd.C_below (pC_ HR117_0.out) hb);replace HR117_3:=Aside0.mk (Kd.C_below (pC_ HR117_3.out) hb);replace HR118_0:=Aside0.mk (Kd.C_below (pC_ HR118_0.out) hb);replace HR118_3:=Aside0.mk (Kd.C_below (pC_ HR118_3.out) hb);replace HB:=Aside0.mk (below_step bel_ hb);(try clear hb);(try clear hb2);(try clear hk);(try clear hi);(try clear ho0);obtain⟨Ao32,co32,eo32⟩:=Kd.R_slice HO128.out;subst eo32)|(go_at_call 35;(with_reducible refine(hunk_May.calls k _ _ y101 t129 _ ?side1 ?side2 A20.out).mono ?_);(case side1=>repeat(first|exact(Kd.R_reads' HO103.out).2.2|(with_reducible refine Kd.C_alloc ?_ _)|(with_reducible refine Kd.C_drewN ?_ _)|(with_reducible refine Kd.C_drew ?_)));(case side2=>exact(Kd.R_reads' HO103.out).2.1);rintro e w33 ⟨rfl,hb⟩;replace HO103:=Aside0.mk (Kd.R_below (pR_ HO103.out) hb);replace HO106:=Aside0.mk (Kd.N_below (pN_ HO106.out) hb);replace HO110:=Aside0.mk (Kd.N_below (pN_ HO110.out) hb);replace HO114:=Aside0.mk (Kd.N_below (pN_ HO114.out) hb);replace HL116_0:=Aside0.mk (Kd.V_below (pV_ HL116_0.out) hb);replace HL116_3:=Aside0.mk (Kd.V_below (pV_ HL116_3.out) hb);replace HL117_0:=Aside0.mk (Kd.V_below (pV_ HL117_0.out) hb);replace HL117_3:=Aside0.mk (Kd.V_below (pV_ HL117_3.out) hb);replace HL118_0:=Aside0.mk (Kd.V_below (pV_ HL118_0.out) hb);replace HL118_3:=Aside0.mk (Kd.V_below (pV_ HL118_3.out) hb);replace HO124:=Aside0.mk (Kd.V_below (pV_ HO124.out) hb);replace HO128:=Aside0.mk (Kd.R_below (pR_ HO128.out) hb);replace HR116_0:=Aside0.mk (Kd.C_below (pC_ HR116_0.out) hb);replace HR116_3:=Aside0.mk (Kd.C_below (pC_ HR116_3.out) hb);replace HR117_0:=Aside0.mk (Kd.C_below (pC_ HR117_0.out) hb);replace HR117_3:=Aside0.mk (Kd.C_below (pC_ HR117_3.out) hb);replace HR118_0:=Aside0.mk (Kd.C_below (pC_ HR118_0.out) hb);replace HR118_3:=Aside0.mk (Kd.C_below (pC_ HR118_3.out) hb);replace HB:=Aside0.mk (below_step bel_ hb);(try clear hb);(try clear hb2);(try clear hk);(try clear hi))));go_ret;exact⟨by first|rfl|(simp[errW_none,errW_some] <;> rfl)|(simp[*,errW_none,errW_some] <;> rfl),bel_⟩)
              (· (rw[if_neg c19] at H);have c19b0:((t126.length:Int) == 1)=false:=beq_eq_false_iff_ne.mpr c19;have c19b1:((t126.length:Int) != 1)=true:=bne_iff_ne.mpr c19;exact absurd (Option.some.inj H) (by rw[hrt_];decide))
             (· replace c17:=Bool.eq_false_iff.mpr c17;subst c17;have H1:=H;(rw[if_neg (show ¬ (false=true) by decide)] at H1);clear H;have H:=H1;clear H1;exact absurd (Option.some.inj H) (by rw[hrt_];decide))
            (· exact nx_ c15 H)
           (· exact nx_ c14 H)
          (· (rw[if_neg c13] at H);have c13b0:((t108.length:Int) == 0)=false:=beq_eq_false_iff_ne.mpr c13;have c13b1:((t108.length:Int) != 0)=true:=bne_iff_ne.mpr c13;(have c13b2 : ¬ (t108=[]):=fun h_=>c13 (by rw[h_];rfl));exact absurd (Option.some.inj H) (by rw[hrt_];decide))
         (· (rw[if_neg c12] at H);have c12b0:(((rd_T45 ((rd_T48 t104 0).f0) 0).f1) == 2)=false:=beq_eq_false_iff_ne.mpr c12;have c12b1:(((rd_T45 ((rd_T48 t104 0).f0) 0).f1) != 2)=true:=bne_iff_ne.mpr c12;exact absurd (Option.some.inj H) (by rw[hrt_];decide))
        (· exact nx_ c11 H)
       (· (rw[if_neg c10] at H);have c10b0:(((rd_T48 t104 0).f1.f1) == 3)=false:=beq_eq_false_iff_ne.mpr c10;have c10b1:(((rd_T48 t104 0).f1.f1) != 3)=true:=bne_iff_ne.mpr c10;exact absurd (Option.some.inj H) (by rw[hrt_];decide))
      (· (rw[if_neg c9] at H);have c9b0:((((rd_T48 t104 0).f2).length:Int) == 3)=false:=beq_eq_false_iff_ne.mpr c9;have c9b1:((((rd_T48 t104 0).f2).length:Int) != 3)=true:=bne_iff_ne.mpr c9;exact absurd (Option.some.inj H) (by rw[hrt_];decide))
     (· exact nx_ c8 H)
    (· (rw[if_neg c7] at H);have c7b0:((t104.length:Int) == 1)=false:=beq_eq_false_iff_ne.mpr c7;have c7b1:((t104.length:Int) != 1)=true:=bne_iff_ne.mpr c7;exact absurd (Option.some.inj H) (by rw[hrt_];decide))
   (· (rw[if_neg c6] at H);have c6b0:(t115 == 1)=false:=beq_eq_false_iff_ne.mpr c6;have c6b1:(t115 != 1)=true:=bne_iff_ne.mpr c6;exact absurd (Option.some.inj H) (by rw[hrt_];decide))
  (· (rw[if_neg c5] at H);have c5b0:(t111 == 0)=false:=beq_eq_false_iff_ne.mpr c5;have c5b1:(t111 != 0)=true:=bne_iff_ne.mpr c5;exact absurd (Option.some.inj H) (by rw[hrt_];decide))
 (· (rw[if_neg c4] at H);have c4b0:(t107 == 0)=false:=beq_eq_false_iff_ne.mpr c4;have c4b1:(t107 != 0)=true:=bne_iff_ne.mpr c4;exact absurd (Option.some.inj H) (by rw[hrt_];decide))
end Go.Proofs.YthcnfflhejogfaaDoor.X
